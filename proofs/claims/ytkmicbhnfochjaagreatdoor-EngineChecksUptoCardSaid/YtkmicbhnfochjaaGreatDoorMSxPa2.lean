/- Symbolic executor, part 14: code and calls. No condition. -/
import Derived.Test.YtkmicbhnfochjaaGreatDoorMSxOp9
import Derived.Scope
import Derived.Orders

namespace Go.Sx

inductive Task where
  | call (f : FuncId) (args : List Value)
  | code (c : Code) (T : List Value)
  | inLoop (c : Code) (T : List Value)
  | inScope (c body : Code) (T : List Value)
inductive ARes where
  | val (v : Value)
  | out (e : SExit) (T : List Value)
abbrev Rec := Task → X ARes

def putT (T : List Value) (dst : Option Tmp) (v : Value) : List Value := match dst with
  | some d => T.set d v
  | none => T
def callX (rec : Rec) (f : FuncId) (args : List Value) : X Value := X.bind (rec (.call f args)) fun r => match r with
  | .val v => X.pure v
  | _ => X.fail
def runOp (P : Program) (rec : Rec) (T : List Value) (o : Oper) : X Value := X.bind (exOp P T o) fun r => match r with
  | .val v => X.pure v
  | .unit => X.pure undef
  | .call f args => callX rec f args
/-- Is the operation wanted? -/
def wantX (ops : List Oper) (T : List Value) (o : Oper) : X Bool := match o.guard with
  | none => X.pure true
  | some (j, want) => match (ops[j]?).bind (·.dst) with
    | none => X.pure false
    | some d => match T.getD d undef with
      | .bool b => X.bind (ask b) fun t => X.pure (t == want)
      | .tuple _ => X.pure false
      | _ => X.fail
def stepV (P : Program) (rec : Rec) (ops : List Oper) (T : List Value) (o : Oper) : X Value := X.bind (wantX ops T o) fun b => match b with
  | true => runOp P rec T o
  | false => X.pure undef
def stepOp (P : Program) (rec : Rec) (ops : List Oper) (T : List Value) (o : Oper) : X (List Value) := X.bind (stepV P rec ops T o) fun v => X.pure (putT T o.dst v)
def seqOps (P : Program) (rec : Rec) (ops : List Oper) : List Oper → List Value → X (List Value)
  | [], T => X.pure T
  | o :: l, T => X.bind (stepOp P rec ops T o) fun T' => seqOps P rec ops l T'

/-! A region that draws its order: what each operation reads and writes. -/
structure Foot where
  tr : List Nat
  tw : List Nat
  R : List Nat
  W : List Nat
def scopeX {α : Type} (x : X α) : X (α × List Nat × List Nat) := fun d s => match x d { s with R := [], W := [] } with
  | some (a, s') => some ((a, s'.R, s'.W), { s' with R := s'.R ++ s.R, W := s'.W ++ s.W })
  | none => none
def tmpsOf : List Operand → List Nat
  | [] => []
  | .tmp t :: l => t :: tmpsOf l
  | _ :: l => tmpsOf l
def looks (ops : List Oper) (o : Oper) : List Nat := (match o.guard with
  | some (g, _) => ((ops[g]?).bind (·.dst)).toList
  | none => []) ++ tmpsOf o.op.operands.toList
def parOps (P : Program) (rec : Rec) (ops : List Oper) : List Oper → List Value → X (List Value × List Foot)
  | [], T => X.pure (T, [])
  | o :: l, T => X.bind (scopeX (stepV P rec ops T o)) fun q => X.bind (parOps P rec ops l (putT T o.dst q.1)) fun z => X.pure (z.1, ⟨looks ops o, o.dst.toList, q.2.1, q.2.2⟩ :: z.2)
def hasN (n : Nat) : List Nat → Bool
  | [] => false
  | m :: l => match Nat.beq m n with
    | true => true
    | false => hasN n l
def disj : List Nat → List Nat → Bool
  | [], _ => true
  | n :: l, m => match hasN n m with
    | true => false
    | false => disj l m
def indep (x y : Foot) : Bool := disj x.tw y.tr && (disj x.tw y.tw && (disj x.tr y.tw && (disj x.W y.R && (disj x.W y.W && disj x.R y.W))))
/-- Which operations stand ahead of each by the edges that always bind, as bits. -/
def ahead (masks : List Nat) : List Edge → Nat → Nat
  | [], m => m
  | e :: l, m => match Region.binds .any e with
    | true => ahead masks l (m ||| (2 ^ e.on ||| masks.getD e.on 0))
    | false => ahead masks l m
def masksOf : List Oper → List Nat → List Nat
  | [], ms => ms
  | o :: l, ms => masksOf l (ms ++ [ahead ms o.after.toList 0])
def checkWith (j : Nat) (mask : Nat) (y : Foot) : Nat → List Foot → Bool
  | _, [] => true
  | i, x :: l => (Nat.testBit mask i || indep x y) && checkWith j mask y (i + 1) l
def checkAll (masks : List Nat) (all : List Foot) : Nat → List Foot → Bool
  | _, [] => true
  | j, y :: l => checkWith j (masks.getD j 0) y 0 (all.take j) && checkAll masks all (j + 1) l
def edgesOk : Nat → List Oper → Bool
  | _, [] => true
  | i, o :: l => (o.after.toList.all fun e => !Region.binds .any e || Nat.blt e.on i) && edgesOk (i + 1) l
def parX (P : Program) (rec : Rec) (ops : List Oper) (T : List Value) : X (List Value) := X.bind (parOps P rec ops ops T) fun z => X.bind (need (edgesOk 0 ops && checkAll (masksOf ops []) z.2 0 z.2)) fun _ => X.pure z.1

def resX (P : Program) (T : List Value) : List ResultVar → X (List Value)
  | [] => X.pure []
  | .tmp t :: l => X.bind (resX P T l) fun vs => X.pure (T.getD t undef :: vs)
  | .cell a t :: l => X.bind (exLoad P t (T.getD a undef)) fun v => X.bind (resX P T l) fun vs => X.pure (v :: vs)
def oneV : List Value → Value
  | [v] => v
  | vs => .tuple ⟨vs⟩

def stepT (P : Program) (ro rec : Rec) : Task → X ARes
  | .call f args => match P.funcs[f]? with
    | some fn => match fn.body with
      | some c => X.bind (rec (.code c (args ++ List.replicate (fn.ntmps - args.length) undef))) fun r => match r with
        | .out .normal T => X.bind (resX P T fn.results.toList) fun vs => X.pure (.val (oneV vs))
        | .out .ret T => X.bind (resX P T fn.results.toList) fun vs => X.pure (.val (oneV vs))
        | _ => X.fail
      | none => X.fail
    | none => X.fail
  | .inLoop c T => X.bind (rec (.code c T)) fun r => match r with
    | .out .normal T' => rec (.inLoop c T')
    | r => X.pure r
  | .inScope c body T => X.bind (rec (.code c T)) fun r => match r with
    | .out (.goto l) T' => match findLabel body l with
      | some rest => rec (.inScope rest body T')
      | none => X.pure (.out (.goto l) T')
    | r => X.pure r
  | .code c T => match c with
    | .skip => X.pure (.out .normal T)
    | .label _ => X.pure (.out .normal T)
    | .region _ ops false => X.bind (seqOps P ro ops.toList ops.toList T) fun T' => X.pure (.out .normal T')
    | .region _ ops true => X.bind (parX P ro ops.toList T) fun T' => X.pure (.out .normal T')
    | .seq a b => X.bind (rec (.code a T)) fun r => match r with
      | .out .normal T' => rec (.code b T')
      | r => X.pure r
    | .cond c a b => X.bind (opt (evO T c)) fun v => match v with
      | .bool b0 => X.bind (ask b0) fun t => match t with
        | true => rec (.code a T)
        | false => rec (.code b T)
      | _ => X.fail
    | .block id a => X.bind (rec (.code a T)) fun r => match r with
      | .out (.exit i) T' => match Nat.beq i id with
        | true => X.pure (.out .normal T')
        | false => X.pure (.out (.exit i) T')
      | r => X.pure r
    | .loop a => rec (.inLoop a T)
    | .exit id => X.pure (.out (.exit id) T)
    | .scope a => rec (.inScope a a T)
    | .goto l => X.pure (.out (.goto l) T)
    | .ret => X.pure (.out .ret T)
    | .rangeFunc _ _ _ _ => X.fail
    | .refuse _ => X.fail

/-- What a task comes to by a contract, where there is one. -/
abbrev Contracts := Task → Option (X ARes)
def noC : Contracts := fun _ => none
def ex (P : Program) (C : Contracts) : Nat → Rec
  | 0 => fun _ => X.fail
  | n + 1 => fun t => match C t with
    | some x => x
    | none => stepT P (ex P C n) (ex P C n) t

/-! Local. -/
def LocalR (rec : Rec) : Prop := ∀ t, Local (rec t)
section
variable {P : Program} {rec : Rec} (hr : LocalR rec)
include hr
theorem Local.callX (f : FuncId) (args : List Value) : Local (callX rec f args) := by
  unfold Sx.callX
  refine Local.bind (hr _) fun r => ?_
  split
  · exact Local.pure _
  · exact Local.fail
theorem Local.runOp (T : List Value) (o : Oper) : Local (runOp P rec T o) := by
  unfold Sx.runOp
  refine Local.bind (Local.exOp _ _ _) fun r => ?_
  split
  · exact Local.pure _
  · exact Local.pure _
  · exact Local.callX hr _ _
omit hr in
theorem Local.wantX (ops : List Oper) (T : List Value) (o : Oper) : Local (wantX ops T o) := by
  unfold Sx.wantX
  split
  · exact Local.pure _
  · split
    · exact Local.pure _
    · split
      · exact Local.bind (Local.ask _) fun _ => Local.pure _
      · exact Local.pure _
      · exact Local.fail
theorem Local.stepV (ops : List Oper) (T : List Value) (o : Oper) : Local (stepV P rec ops T o) := by
  unfold Sx.stepV
  refine Local.bind (Local.wantX _ _ _) fun b => ?_
  split
  · exact Local.runOp hr _ _
  · exact Local.pure _
theorem Local.stepOp (ops : List Oper) (T : List Value) (o : Oper) : Local (stepOp P rec ops T o) := Local.bind (Local.stepV hr _ _ _) fun _ => Local.pure _
theorem Local.seqOps (ops : List Oper) : ∀ (l : List Oper) (T : List Value), Local (seqOps P rec ops l T)
  | [], _ => Local.pure _
  | o :: l, T => Local.bind (Local.stepOp hr ops T o) fun _ => Local.seqOps ops l _
omit hr in
theorem Local.scopeX {α : Type} {x : X α} (hx : Local x) : Local (scopeX x) := by
  intro d s a s' h
  unfold Sx.scopeX at h
  cases e : x d { s with R := [], W := [] } with
  | none => simp [e] at h
  | some p =>
    obtain ⟨b, s1⟩ := p
    simp only [e, Option.some.injEq, Prod.mk.injEq] at h
    obtain ⟨rfl, rfl⟩ := h
    obtain ⟨c1, R, W, V, hR, hW, hV, k1, l1⟩ := hx d _ b s1 e
    simp only [List.append_nil] at hR hW hV
    refine ⟨c1, R, W, V, by simp [hR], by simp [hW], hV, k1, fun s2 hc hk hag => ?_⟩
    obtain ⟨h2, e2, g1, g2⟩ := l1 { s2 with R := [], W := [] } hc hk hag
    refine ⟨h2, ?_, g1, g2⟩
    unfold Sx.scopeX
    rw [e2]
    simp [hR, hW]
theorem Local.parOps (ops : List Oper) : ∀ (l : List Oper) (T : List Value), Local (parOps P rec ops l T)
  | [], _ => Local.pure _
  | o :: l, T => Local.bind (Local.scopeX (Local.stepV hr ops T o)) fun _ => Local.bind (Local.parOps ops l _) fun _ => Local.pure _
theorem Local.parX (ops : List Oper) (T : List Value) : Local (parX P rec ops T) :=
  Local.bind (Local.parOps hr ops _ _) fun _ => Local.bind (Local.need _) fun _ => Local.pure _
omit hr in
theorem Local.resX (T : List Value) : ∀ (l : List ResultVar), Local (resX P T l)
  | [] => Local.pure _
  | .tmp t :: l => Local.bind (Local.resX T l) fun _ => Local.pure _
  | .cell a t :: l => Local.bind (Local.exLoad _ _ _) fun _ => Local.bind (Local.resX T l) fun _ => Local.pure _
theorem Local.stepT {ro : Rec} (hro : LocalR ro) (t : Task) : Local (stepT P ro rec t) := by
  cases t with
  | call f args =>
    simp only [Sx.stepT]
    cases P.funcs[f]? with
    | none => exact Local.fail
    | some fn =>
      simp only
      cases fn.body with
      | none => exact Local.fail
      | some c =>
        refine Local.bind (hr _) fun r => ?_
        split
        · exact Local.bind (Local.resX _ _) fun _ => Local.pure _
        · exact Local.bind (Local.resX _ _) fun _ => Local.pure _
        · exact Local.fail
  | inLoop c T =>
    refine Local.bind (hr _) fun r => ?_
    split
    · exact hr _
    · exact Local.pure _
  | inScope c b T =>
    refine Local.bind (hr _) fun r => ?_
    split
    · split
      · exact hr _
      · exact Local.pure _
    · exact Local.pure _
  | code c T =>
    unfold Sx.stepT
    cases c with
    | skip => exact Local.pure _
    | label _ => exact Local.pure _
    | region id ops draw =>
      cases draw
      · exact Local.bind (Local.seqOps hro _ _ _) fun _ => Local.pure _
      · exact Local.bind (Local.parX hro _ _) fun _ => Local.pure _
    | seq a b =>
      refine Local.bind (hr _) fun r => ?_
      split
      · exact hr _
      · exact Local.pure _
    | cond c a b =>
      refine Local.bind (Local.opt _) fun v => ?_
      split
      · refine Local.bind (Local.ask _) fun t => ?_
        split
        · exact hr _
        · exact hr _
      · exact Local.fail
    | block id a =>
      refine Local.bind (hr _) fun r => ?_
      split
      · split
        · exact Local.pure _
        · exact Local.pure _
      · exact Local.pure _
    | loop a => exact hr _
    | exit id => exact Local.pure _
    | scope a => exact hr _
    | goto l => exact Local.pure _
    | ret => exact Local.pure _
    | rangeFunc _ _ _ _ => exact Local.fail
    | refuse _ => exact Local.fail
omit hr in
theorem Local.ex {C : Contracts} (hC : ∀ t x, C t = some x → Local x) : ∀ (n : Nat), LocalR (ex P C n)
  | 0 => fun _ => Local.fail
  | n + 1 => fun t => by
    unfold Sx.ex
    cases e : C t with
    | some x => exact hC t x e
    | none => exact Local.stepT (Local.ex hC n) (Local.ex hC n) t
end

end Go.Sx

namespace Go.Sx

def exitRel : SExit → Exit → Prop
  | .normal, .normal => True
  | .exit i, .exit j => i = j
  | .goto i, .goto j => i = j
  | .ret, .ret => True
  | _, _ => False
/-- Where code comes to. -/
def Comes' (P : Program) (r : Env) (ow : Nat → Option Nat) (w : World) (s s' : St) (e : SExit) (T' : List Value) : Exit → Act → World → Prop := fun e' a' w' =>
  exitRel e e' ∧ a'.defers = [] ∧ ∃ r' ow', Post P r ow w s r' ow' w' s' ∧ RelL r' T' a'.tmps.toList
def LoopWp (P : Program) (c : Code) (Q : Exit → Act → World → Prop) (a : Act) (w : World) : Prop :=
  ∀ (b : _root_.Go.Frame) (k : List Item) (cs : List _root_.Go.Frame), ∃ e a' w', Q e a' w' ∧ Arrives P (lone (b.at a (.code c :: .inLoop c :: k)) cs w) b k cs e a' w'
def ScopeWp (P : Program) (c body : Code) (Q : Exit → Act → World → Prop) (a : Act) (w : World) : Prop :=
  ∀ (b : _root_.Go.Frame) (k : List Item) (cs : List _root_.Go.Frame), ∃ e a' w', Q e a' w' ∧ Arrives P (lone (b.at a (.code c :: .inScope body :: k)) cs w) b k cs e a' w'
def CallPost (P : Program) (r : Env) (ow : Nat → Option Nat) (w : World) (s s' : St) (v : Value) : Ending → World → Prop := fun e w' =>
  ∃ r' ow' u, e = .returned u ∧ Post P r ow w s r' ow' w' s' ∧ Rel r' v u

def TaskOk (P : Program) (r : Env) (ow : Nat → Option Nat) (w : World) (s s' : St) : Task → ARes → Prop
  | .call f args, .val v => ∀ us : Array Value, RelL r args us.toList → Calls P f us w (CallPost P r ow w s s' v)
  | .code c T, .out e T' => ∀ a : Act, RelL r T a.tmps.toList → a.defers = [] → c.wp P (Comes' P r ow w s s' e T') a w
  | .inLoop c T, .out e T' => ∀ a : Act, RelL r T a.tmps.toList → a.defers = [] → LoopWp P c (Comes' P r ow w s s' e T') a w
  | .inScope c body T, .out e T' => ∀ a : Act, RelL r T a.tmps.toList → a.defers = [] → ScopeWp P c body (Comes' P r ow w s s' e T') a w
  | _, _ => True
def TaskSnd (P : Program) (x : X ARes) (t : Task) : Prop := ∀ d s res s', x d s = some (res, s') → (VCs s'.V → VCs s.V) ∧ (VCs s'.V → ∀ r ow w, Sat P r ow s.h w → Fresh r s.c s'.c → TaskOk P r ow w s s' t res)
structure RecSnd (P : Program) (rec : Rec) : Prop where
  loc : LocalR rec
  snd : ∀ t, TaskSnd P (rec t) t

/-- A run's counter only grows. -/
def MonoX {α : Type} (x : X α) : Prop := ∀ d s a s', x d s = some (a, s') → s.c ≤ s'.c
theorem Local.monoX {α : Type} {x : X α} (h : Local x) : MonoX x := fun d s a s' e => (h d s a s' e).1
theorem MonoX.pure {α : Type} (a : α) : MonoX (X.pure a) := (Local.pure a).monoX
theorem MonoX.fail {α : Type} : MonoX (X.fail : X α) := Local.fail.monoX
theorem MonoX.bind {α β : Type} {x : X α} {f : α → X β} (h : MonoX x) (k : ∀ a, MonoX (f a)) : MonoX (X.bind x f) := fun d s a s' e => by
  obtain ⟨b, s1, h1, h2⟩ := bind_some e
  exact Nat.le_trans (h d s b s1 h1) (k b d s1 a s' h2)
structure RecMono (P : Program) (rec : Rec) : Prop where
  mono : ∀ t, MonoX (rec t)
  snd : ∀ t, TaskSnd P (rec t) t
theorem RecSnd.mono {P : Program} {rec : Rec} (h : RecSnd P rec) : RecMono P rec := ⟨fun t => (h.loc t).monoX, h.snd⟩
section
variable {P : Program} {rec : Rec}
theorem MonoX.callX (hr : ∀ t, MonoX (rec t)) (f : FuncId) (as : List Value) : MonoX (callX rec f as) := by
  unfold Sx.callX
  refine MonoX.bind (hr _) fun r => ?_
  split
  · exact MonoX.pure _
  · exact MonoX.fail
theorem MonoX.stepV (hr : ∀ t, MonoX (rec t)) (ops : List Oper) (T : List Value) (o : Oper) : MonoX (stepV P rec ops T o) := by
  unfold Sx.stepV
  refine MonoX.bind (Local.wantX _ _ _).monoX fun b => ?_
  split
  · unfold Sx.runOp
    refine MonoX.bind (Local.exOp _ _ _).monoX fun r => ?_
    split
    · exact MonoX.pure _
    · exact MonoX.pure _
    · exact MonoX.callX hr _ _
  · exact MonoX.pure _
theorem MonoX.stepOp (hr : ∀ t, MonoX (rec t)) (ops : List Oper) (T : List Value) (o : Oper) : MonoX (stepOp P rec ops T o) := MonoX.bind (MonoX.stepV hr _ _ _) fun _ => MonoX.pure _
theorem MonoX.seqOps (hr : ∀ t, MonoX (rec t)) (ops : List Oper) : ∀ (l : List Oper) (T : List Value), MonoX (seqOps P rec ops l T)
  | [], _ => MonoX.pure _
  | o :: l, T => MonoX.bind (MonoX.stepOp hr ops T o) fun _ => MonoX.seqOps hr ops l _
end

section
variable {P : Program}

theorem wp_loop_of {c : Code} {Q : Exit → Act → World → Prop} {a : Act} {w : World} (h : LoopWp P c Q a w) : (Code.loop c).wp P Q a w :=
  fun b k cs => let ⟨e, a', w', q, r⟩ := h b k cs; ⟨e, a', w', q, .of_steps (.one step_loop) r⟩
theorem loopWp_step {c : Code} {Q : Exit → Act → World → Prop} {a : Act} {w : World} (h : c.wp P (Exit.then (LoopWp P c Q) Q) a w) : LoopWp P c Q a w := by
  intro b k cs
  obtain ⟨e, a1, w1, hq, harr⟩ := h b (.inLoop c :: k) cs
  cases e with
  | normal =>
    obtain ⟨e2, a2, w2, q2, r2⟩ := hq b k cs
    exact ⟨e2, a2, w2, q2, .of_steps (Steps.trans harr (.one step_inLoop)) r2⟩
  | exit id => exact ⟨_, a1, w1, hq, .pass (x := .inLoop c) rfl (fun _ _ => .inl (by simp)) harr⟩
  | goto l => exact ⟨_, a1, w1, hq, .pass (x := .inLoop c) rfl (fun _ _ => .inl (by simp)) harr⟩
  | ret => exact ⟨_, a1, w1, hq, .pass (x := .inLoop c) rfl (fun _ _ => .inl (by simp)) harr⟩
  | panic ch => exact ⟨_, a1, w1, hq, .pass (x := .inLoop c) rfl (fun _ _ => .inl (by simp)) harr⟩
  | outgrown => exact ⟨_, a1, w1, hq, .pass (x := .inLoop c) rfl (fun _ _ => .inl (by simp)) harr⟩
theorem wp_scope_of {c : Code} {Q : Exit → Act → World → Prop} {a : Act} {w : World} (h : ScopeWp P c c Q a w) : (Code.scope c).wp P Q a w :=
  fun b k cs => let ⟨e, a', w', q, r⟩ := h b k cs; ⟨e, a', w', q, .of_steps (.one step_scope) r⟩
theorem step_inScope {b : _root_.Go.Frame} {a : Act} {k : List Item} {cs : List _root_.Go.Frame} {w : World} {c : Code} : step P (lone (b.at a (.inScope c :: k)) cs w) = .next (lone (b.at a k) cs w) :=
  step_lone_go (by simp [stepG, stepG.exec, Frame.at])
def scopeQ (P : Program) (body : Code) (Q : Exit → Act → World → Prop) : Exit → Act → World → Prop
  | .goto l, a, w => match findLabel body l with
    | some rest => ScopeWp P rest body Q a w
    | none => Q (.goto l) a w
  | e, a, w => Q e a w
theorem scopeWp_step {c body : Code} {Q : Exit → Act → World → Prop} {a : Act} {w : World} (h : c.wp P (scopeQ P body Q) a w) : ScopeWp P c body Q a w := by
  intro b k cs
  obtain ⟨e, a1, w1, hq, harr⟩ := h b (.inScope body :: k) cs
  cases e with
  | normal => exact ⟨.normal, a1, w1, hq, Steps.trans harr (.one step_inScope)⟩
  | exit id => exact ⟨.exit id, a1, w1, hq, fun k' hk => harr k' (by simp [exitTo, hk])⟩
  | goto l =>
    simp only [scopeQ] at hq
    cases hf : findLabel body l with
    | none =>
      simp only [hf] at hq
      exact ⟨.goto l, a1, w1, hq, fun k' hk => harr k' (by simp [gotoIn, hf, hk])⟩
    | some rest =>
      simp only [hf] at hq
      obtain ⟨e2, a2, w2, q2, r2⟩ := hq b k cs
      exact ⟨e2, a2, w2, q2, .of_steps (harr _ (by simp [gotoIn, hf])) r2⟩
  | ret => exact ⟨_, a1, w1, hq, harr⟩
  | panic ch => exact ⟨_, a1, w1, hq, harr⟩
  | outgrown => exact ⟨_, a1, w1, hq, harr⟩

theorem putT_rel {r : Env} {T : List Value} {a : Act} (h : RelL r T a.tmps.toList) (dst : Option Tmp) {v u : Value} (hv : Rel r v u) : RelL r (putT T dst v) (a.put dst u).tmps.toList := by
  cases dst with
  | none => exact h
  | some d => simpa [putT, Act.put] using h.set hv d
theorem put_defers (a : Act) (dst : Option Tmp) (u : Value) : (a.put dst u).defers = a.defers := by cases dst <;> rfl
theorem undef_rel {r : Env} : Rel r undef undef := RelL.mkTuple .nil

theorem runOp_snd {rec : Rec} (hr : RecMono P rec) {T : List Value} {o : Oper} {d : Advice} {s s' : St} {v : Value} (h : runOp P rec T o d s = some (v, s')) :
    (VCs s'.V → VCs s.V) ∧ (VCs s'.V → ∀ (r : Env) (ow : Nat → Option Nat) (w : World) (a : Act), Sat P r ow s.h w → Fresh r s.c s'.c → RelL r T a.tmps.toList → ∀ (K : Act → World → Prop) (Q : Exit → Act → World → Prop),
      (∀ r' ow' u w', Post P r ow w s r' ow' w' s' → Rel r' v u → K (a.put o.dst u) w') → o.wp P a w K Q) := by
  unfold runOp at h
  obtain ⟨res, s1, h1, h2⟩ := bind_some h
  obtain ⟨g1, g2⟩ := exOp_snd (P := P) T o d s res s1 h1
  have l1 : s.c ≤ s1.c := (Local.exOp P T o d s _ s1 h1).1
  cases res with
  | val v' =>
    simp only at h2
    obtain ⟨rfl, rfl⟩ := pure_some h2
    refine ⟨g1, fun hV r ow w a hs hf ha K Q hK => ?_⟩
    obtain ⟨r', ow', n, w', e1, e2, e3⟩ := g2 hV r ow w _ hs hf ⟨a, ha, rfl⟩
    unfold Oper.wp
    rw [e1]
    cases n <;> simp only [NextRel] at e3
    exact hK _ _ _ _ e2 e3
  | unit =>
    simp only at h2
    obtain ⟨rfl, rfl⟩ := pure_some h2
    refine ⟨g1, fun hV r ow w a hs hf ha K Q hK => ?_⟩
    obtain ⟨r', ow', n, w', e1, e2, e3⟩ := g2 hV r ow w _ hs hf ⟨a, ha, rfl⟩
    unfold Oper.wp
    rw [e1]
    cases n <;> simp only [NextRel] at e3
    exact hK _ _ _ _ e2 undef_rel
  | call f args =>
    simp only at h2
    unfold callX at h2
    obtain ⟨res2, s2, h3, h4⟩ := bind_some h2
    have l2 : s1.c ≤ s2.c := hr.mono _ d s1 _ s2 h3
    obtain ⟨g3, g4⟩ := hr.snd _ d s1 res2 s2 h3
    cases res2 with
    | out e T' => simp [X.fail] at h4
    | val v' =>
      simp only at h4
      obtain ⟨rfl, rfl⟩ := pure_some h4
      refine ⟨fun hV => g1 (g3 hV), fun hV r ow w a hs hf ha K Q hK => ?_⟩
      obtain ⟨r1, ow1, n, w1, e1, e2, e3⟩ := g2 (g3 hV) r ow w _ hs (hf.sub (Nat.le_refl _) l2) ⟨a, ha, rfl⟩
      unfold Oper.wp
      rw [e1]
      cases n <;> simp only [NextRel] at e3
      obtain ⟨rfl, e4⟩ := e3
      have hc := g4 hV r1 ow1 w1 e2.sat (hf.after e2.new l1) _ e4
      refine Calls.mono hc fun e w2 ⟨r', ow', u, he, hp, hu⟩ => ?_
      subst he
      exact hK _ _ _ _ (e2.trans hp) hu

theorem wantX_snd {ops : Array Oper} {T : List Value} {o : Oper} {d : Advice} {s s' : St} {b : Bool} (h : wantX ops.toList T o d s = some (b, s')) :
    Calm s s' ∧ (VCs s'.V → ∀ (r : Env) (a : Act), RelL r T a.tmps.toList → Region.wanted o (yielded ops a.tmps) = b) := by
  unfold wantX at h
  cases hg : o.guard with
  | none =>
    simp only [hg] at h
    obtain ⟨rfl, rfl⟩ := pure_some h
    exact ⟨Calm.refl _, fun _ r a ha => by simp [Region.wanted, hg]⟩
  | some q =>
    obtain ⟨j, want⟩ := q
    simp only [hg, Array.getElem?_toList] at h
    cases hd : (ops[j]?).bind (·.dst) with
    | none =>
      simp only [hd] at h
      obtain ⟨rfl, rfl⟩ := pure_some h
      exact ⟨Calm.refl _, fun _ r a ha => by simp [Region.wanted, hg, yielded, hd]⟩
    | some dd =>
      simp only [hd] at h
      have key : ∀ (r : Env) (a : Act), RelL r T a.tmps.toList → Rel r (T.getD dd undef) (a.tmps.getD dd undef) := fun r a ha => tmp_rel ha dd
      generalize hb0 : T.getD dd undef = tv at h
      cases tv <;> try (simp [X.fail] at h; done)
      case bool b0 =>
        obtain ⟨t, s1, h1, h2⟩ := bind_some h
        obtain ⟨cm, hb⟩ := calm_ask h1
        obtain ⟨rfl, rfl⟩ := pure_some h2
        refine ⟨cm, fun hV r a ha => ?_⟩
        have h3 := key r a ha
        rw [hb0] at h3
        have hbt := hb hV
        subst hbt
        have h4 : a.tmps[dd]? = some (.bool b0) := by
          rw [Array.getD_eq_getD_getElem?] at h3
          cases e : a.tmps[dd]? with
          | none => rw [e] at h3; simp [undef] at h3; cases h3
          | some x => rw [e] at h3; simp at h3; cases h3; rfl
        simp [Region.wanted, hg, yielded, hd, h4]
      case tuple vs =>
        obtain ⟨rfl, rfl⟩ := pure_some h
        refine ⟨Calm.refl _, fun hV r a ha => ?_⟩
        have h3 := key r a ha
        rw [hb0] at h3
        have h4 : ∀ q, a.tmps[dd]? ≠ some (.bool q) := by
          intro q e
          rw [Array.getD_eq_getD_getElem?, e] at h3
          cases h3
        have h5 : yielded ops a.tmps j = none := by
          unfold yielded
          simp only [hd, Option.bind_some]
          try (split; (rename_i q hq; exact absurd hq (h4 q)); rfl)
        simp [Region.wanted, hg, h5]

/-- One operation of a region. -/
theorem stepV_snd {rec : Rec} (hr : RecMono P rec) {ops : Array Oper} {T : List Value} {v : Value} {o : Oper} {i : Nat} (hi : ops[i]? = some o) {d : Advice} {s s' : St} (h : stepV P rec ops.toList T o d s = some (v, s')) :
    (VCs s'.V → VCs s.V) ∧ (VCs s'.V → ∀ (r : Env) (ow : Nat → Option Nat) (w : World) (a : Act), Sat P r ow s.h w → Fresh r s.c s'.c → RelL r T a.tmps.toList → ∀ (K : Act → World → Prop) (Q : Exit → Act → World → Prop),
      (∀ r' ow' u w', Post P r ow w s r' ow' w' s' → Rel r' v u → K (a.put o.dst u) w') → wpOp P ops Q i K a w) := by
  unfold stepV at h
  obtain ⟨b, s1, h1, h2⟩ := bind_some h
  obtain ⟨cm, hw⟩ := wantX_snd h1
  cases b with
  | true =>
    simp only at h2
    obtain ⟨g1, g2⟩ := runOp_snd hr h2
    refine ⟨fun hV => cm.V (g1 hV), fun hV r ow w a hs hf ha K Q hK => ?_⟩
    unfold wpOp
    simp only [hi, hw (g1 hV) r a ha, if_true]
    refine .inl (g2 hV r ow w a (by rw [cm.h]; exact hs) (by rw [cm.c]; exact hf) ha K Q fun r' ow' u w' hp hu => ?_)
    exact hK r' ow' u w' ((Post.calm hs cm).trans hp) hu
  | false =>
    simp only at h2
    obtain ⟨rfl, rfl⟩ := pure_some h2
    refine ⟨cm.V, fun hV r ow w a hs hf ha K Q hK => ?_⟩
    unfold wpOp
    simp only [hi, hw hV r a ha, Bool.false_eq_true, if_false]
    exact hK r ow undef w (Post.calm hs cm) undef_rel
theorem stepOp_snd {rec : Rec} (hr : RecMono P rec) {ops : Array Oper} {T T' : List Value} {o : Oper} {i : Nat} (hi : ops[i]? = some o) {d : Advice} {s s' : St} (h : stepOp P rec ops.toList T o d s = some (T', s')) :
    (VCs s'.V → VCs s.V) ∧ (VCs s'.V → ∀ (r : Env) (ow : Nat → Option Nat) (w : World) (a : Act), Sat P r ow s.h w → Fresh r s.c s'.c → RelL r T a.tmps.toList → ∀ (K : Act → World → Prop) (Q : Exit → Act → World → Prop),
      (∀ r' ow' u v w', Post P r ow w s r' ow' w' s' → Rel r' v u → T' = putT T o.dst v → K (a.put o.dst u) w') → wpOp P ops Q i K a w) := by
  unfold stepOp at h
  obtain ⟨v, s1, h1, h2⟩ := bind_some h
  obtain ⟨rfl, rfl⟩ := pure_some h2
  obtain ⟨g1, g2⟩ := stepV_snd hr hi h1
  exact ⟨g1, fun hV r ow w a hs hf ha K Q hK => g2 hV r ow w a hs hf ha K Q fun r' ow' u w' hp hu => hK r' ow' u v w' hp hu rfl⟩

theorem seqOps_snd {rec : Rec} (hr : RecMono P rec) {ops : Array Oper} : ∀ (l : List Oper) (i : Nat) (T T' : List Value) (d : Advice) (s s' : St), ops.toList.drop i = l → seqOps P rec ops.toList l T d s = some (T', s') →
    (VCs s'.V → VCs s.V) ∧ (VCs s'.V → ∀ (r : Env) (ow : Nat → Option Nat) (w : World) (a : Act), Sat P r ow s.h w → Fresh r s.c s'.c → RelL r T a.tmps.toList → a.defers = [] → ∀ (Q : Exit → Act → World → Prop),
      (∀ r' ow' a' w', Post P r ow w s r' ow' w' s' → RelL r' T' a'.tmps.toList → a'.defers = [] → Q .normal a' w') → wpOps P ops Q (List.range' i (ops.size - i)) a w)
  | [], i, T, T', d, s, s', hl, h => by
    obtain ⟨rfl, rfl⟩ := pure_some (d := d) h
    have hle : ops.size - i = 0 := by
      have := congrArg List.length hl
      simpa using this
    refine ⟨id, fun hV r ow w a hs hf ha hd Q hQ => ?_⟩
    rw [hle]
    exact hQ r ow a w (Post.calm hs (Calm.refl _)) ha hd
  | o :: l, i, T, T', d, s, s', hl, h => by
    obtain ⟨T1, s1, h1, h2⟩ := bind_some h
    have hi : ops[i]? = some o := by
      have := congrArg (·[0]?) hl
      simpa using this
    have hl' : ops.toList.drop (i + 1) = l := by
      have := congrArg (List.drop 1) hl
      simpa [List.drop_drop] using this
    have hlt : i < ops.size := by
      rcases Nat.lt_or_ge i ops.size with q | q
      · exact q
      · rw [Array.getElem?_eq_none q] at hi; cases hi
    have l1 : s.c ≤ s1.c := MonoX.stepOp hr.mono _ _ _ d s _ s1 h1
    have l2 : s1.c ≤ s'.c := MonoX.seqOps hr.mono _ _ _ d s1 _ s' h2
    obtain ⟨g1, g2⟩ := stepOp_snd hr hi h1
    obtain ⟨g3, g4⟩ := seqOps_snd hr l (i + 1) T1 T' d s1 s' hl' h2
    refine ⟨fun hV => g1 (g3 hV), fun hV r ow w a hs hf ha hd Q hQ => ?_⟩
    have hrange : List.range' i (ops.size - i) = i :: List.range' (i + 1) (ops.size - (i + 1)) := by
      have : ops.size - i = (ops.size - (i + 1)) + 1 := by omega
      rw [this, List.range'_succ]
    rw [hrange, wpOps_cons]
    refine g2 (g3 hV) r ow w a hs (hf.sub (Nat.le_refl _) l2) ha _ _ fun r1 ow1 u v w1 hp hu he => ?_
    subst he
    refine g4 hV r1 ow1 w1 _ hp.sat (hf.after hp.new l1) (putT_rel (ha.mono hp.le) o.dst hu) (by rw [put_defers]; exact hd) Q fun r' ow' a' w' hp' ha' hd' => hQ r' ow' a' w' (hp.trans hp') ha' hd'

end
end Go.Sx

namespace Go.Sx

/-! The value of an operation hangs on the slots alone that it looks at. -/
section
variable {P : Program} {T U : List Value}
theorem evO_congr : ∀ {x : Operand}, (∀ t, x = .tmp t → T.getD t undef = U.getD t undef) → evO T x = evO U x
  | .tmp t, h => by simp only [evO]; rw [h t rfl]
  | .const _, _ => rfl
  | .global _, _ => rfl
  | .func _, _ => rfl
theorem evL_congr : ∀ {l : List Operand}, (∀ x ∈ l, evO T x = evO U x) → evL T l = evL U l
  | [], _ => rfl
  | x :: l, h => by simp only [evL]; rw [h x List.mem_cons_self, evL_congr fun y hy => h y (List.mem_cons_of_mem _ hy)]
theorem evP_congr : ∀ {l : List (Nat × Operand)}, (∀ x ∈ l, evO T x.2 = evO U x.2) → evP T l = evP U l
  | [], _ => rfl
  | (i, x) :: l, h => by simp only [evP]; rw [h (i, x) List.mem_cons_self, evP_congr fun y hy => h y (List.mem_cons_of_mem _ hy)]
theorem evQ_congr {o : Option Operand} (h : ∀ x, o = some x → evO T x = evO U x) : evQ T o = evQ U o := by
  cases o with
  | none => rfl
  | some x => simp only [evQ]; rw [h x rfl]
theorem tmpsOf_mem {l : List Operand} {t : Nat} (h : Operand.tmp t ∈ l) : t ∈ tmpsOf l := by
  induction l with
  | nil => cases h
  | cons x l ih =>
    rcases List.mem_cons.1 h with e | h'
    · subst e; exact List.mem_cons_self
    · cases x with
      | tmp u => exact List.mem_cons_of_mem _ (ih h')
      | const _ => exact ih h'
      | global _ => exact ih h'
      | func _ => exact ih h'
theorem exOp_congr {o : Oper} (h : ∀ x ∈ o.op.operands, evO T x = evO U x) : exOp P T o = exOp P U o := by
  obtain ⟨dst, op, ty, pos, after, guard⟩ := o
  cases op with
  | call c =>
    obtain ⟨cal, args, ats⟩ := c
    have ha : evL T args.toList = evL U args.toList := evL_congr fun x hx => h x (by simp [Op.operands, Call.operands, Array.mem_toList_iff.1 hx])
    cases cal with
    | value f =>
      have hf : evO T f = evO U f := h f (by simp [Op.operands, Call.operands])
      simp only [exOp, ha, hf]
    | invoke rc _ =>
      have hf : evO T rc = evO U rc := h rc (by simp [Op.operands, Call.operands])
      simp only [exOp, ha, hf]
    | builtin b => simp only [exOp, ha]
  | build t ps =>
    have : evP T ps.toList = evP U ps.toList := evP_congr fun x hx => h x.2 (by simp only [Op.operands, List.mem_toArray, List.mem_map]; exact ⟨x, hx, rfl⟩)
    simp only [exOp, this]
  | buildSlice t n ps =>
    have : evP T ps.toList = evP U ps.toList := evP_congr fun x hx => h x.2 (by simp only [Op.operands, List.mem_toArray, List.mem_map]; exact ⟨x, hx, rfl⟩)
    simp only [exOp, this]
  | makeFunc fn f c =>
    have h1 : evL T f.toList = evL U f.toList := evL_congr fun x hx => h x (by simp [Op.operands, Array.mem_toList_iff.1 hx])
    have h2 : evL T c.toList = evL U c.toList := evL_congr fun x hx => h x (by simp [Op.operands, Array.mem_toList_iff.1 hx])
    simp only [exOp, h1, h2]
  | slice t x lo hi mx =>
    have h1 : evO T x = evO U x := h x (by simp [Op.operands])
    have h2 : evQ T lo = evQ U lo := evQ_congr fun y hy => h y (by subst hy; simp [Op.operands])
    have h3 : evQ T hi = evQ U hi := evQ_congr fun y hy => h y (by subst hy; simp [Op.operands])
    have h4 : evQ T mx = evQ U mx := evQ_congr fun y hy => h y (by subst hy; simp [Op.operands])
    simp only [exOp, h1, h2, h3, h4]
  | move x => have h1 := h x (by simp [Op.operands]); simp only [exOp, h1]
  | assign x => have h1 := h x (by simp [Op.operands]); simp only [exOp, h1]
  | pick c x y => have h1 := h c (by simp [Op.operands]); have h2 := h x (by simp [Op.operands]); have h3 := h y (by simp [Op.operands]); simp only [exOp, h1, h2, h3]
  | box t x => have h1 := h x (by simp [Op.operands]); simp only [exOp, h1]
  | load t x => have h1 := h x (by simp [Op.operands]); simp only [exOp, h1]
  | store t x y => have h1 := h x (by simp [Op.operands]); have h2 := h y (by simp [Op.operands]); simp only [exOp, h1, h2]
  | nilCheck x => have h1 := h x (by simp [Op.operands]); simp only [exOp, h1]
  | binOp op t x y yt => have h1 := h x (by simp [Op.operands]); have h2 := h y (by simp [Op.operands]); simp only [exOp, h1, h2]
  | unOp op t x => have h1 := h x (by simp [Op.operands]); simp only [exOp, h1]
  | makeInterface t x => have h1 := h x (by simp [Op.operands]); simp only [exOp, h1]
  | makeSlice t x y => have h1 := h x (by simp [Op.operands]); have h2 := h y (by simp [Op.operands]); simp only [exOp, h1, h2]
  | fieldAddr t x f => have h1 := h x (by simp [Op.operands]); simp only [exOp, h1]
  | field t x f => have h1 := h x (by simp [Op.operands]); simp only [exOp, h1]
  | indexAddr t x y => have h1 := h x (by simp [Op.operands]); have h2 := h y (by simp [Op.operands]); simp only [exOp, h1, h2]
  | index t x y => have h1 := h x (by simp [Op.operands]); have h2 := h y (by simp [Op.operands]); simp only [exOp, h1, h2]
  | lookup t x y ok => have h1 := h x (by simp [Op.operands]); have h2 := h y (by simp [Op.operands]); simp only [exOp, h1, h2]
  | mapUpdate t m k v => have h1 := h m (by simp [Op.operands]); have h2 := h k (by simp [Op.operands]); have h3 := h v (by simp [Op.operands]); simp only [exOp, h1, h2, h3]
  | extract x i => have h1 := h x (by simp [Op.operands]); simp only [exOp, h1]
  | makeMap t res => cases res <;> rfl
  | range t x => have h1 := h x (by simp [Op.operands]); simp only [exOp, h1]
  | next x b => have h1 := h x (by simp [Op.operands]); cases b <;> simp only [exOp, h1]
  | convert s t x => have h1 := h x (by simp [Op.operands]); simp only [exOp, h1]
  | _ => rfl
theorem stepV_congr {rec : Rec} {ops : List Oper} {o : Oper} (h : ∀ t ∈ looks ops o, T.getD t undef = U.getD t undef) : stepV P rec ops T o = stepV P rec ops U o := by
  have h1 : wantX ops T o = wantX ops U o := by
    unfold wantX
    cases hg : o.guard with
    | none => rfl
    | some q =>
      obtain ⟨j, want⟩ := q
      simp only
      cases hd : (ops[j]?).bind (·.dst) with
      | none => rfl
      | some d => simp only; rw [h d (by simp [looks, hg, hd])]
  have h2 : exOp P T o = exOp P U o := exOp_congr fun x hx => evO_congr fun t ht => h t (by
    subst ht
    exact List.mem_append_right _ (tmpsOf_mem (Array.mem_toList_iff.2 hx)))
  unfold stepV runOp
  rw [h1, h2]
end

/-! Which operations stand ahead. -/
theorem hasN_iff {n : Nat} : ∀ {l : List Nat}, hasN n l = true ↔ n ∈ l
  | [] => by simp [hasN]
  | m :: l => by
    simp only [hasN, nbeq]
    by_cases h : m = n
    · simp [h]
    · simp [h, hasN_iff, Ne.symm h]
theorem disj_iff : ∀ {l m : List Nat}, disj l m = true → ∀ n, n ∈ l → n ∉ m
  | [], _, _, n, h => by cases h
  | x :: l, m, h, n, hn => by
    simp only [disj] at h
    cases hx : hasN x m with
    | true => simp [hx] at h
    | false =>
      simp only [hx] at h
      rcases List.mem_cons.1 hn with rfl | hn
      · intro hm; rw [hasN_iff.2 hm] at hx; cases hx
      · exact disj_iff h n hn
structure Indep (x y : Foot) : Prop where
  tr : ∀ t, t ∈ x.tw → t ∉ y.tr
  tw : ∀ t, t ∈ x.tw → t ∉ y.tw
  rt : ∀ t, t ∈ x.tr → t ∉ y.tw
  WR : ∀ n, n ∈ x.W → n ∉ y.R
  WW : ∀ n, n ∈ x.W → n ∉ y.W
  RW : ∀ n, n ∈ x.R → n ∉ y.W
theorem indep_of {x y : Foot} (h : indep x y = true) : Indep x y := by
  simp only [indep, Bool.and_eq_true] at h
  exact ⟨disj_iff h.1, disj_iff h.2.1, disj_iff h.2.2.1, disj_iff h.2.2.2.1, disj_iff h.2.2.2.2.1, disj_iff h.2.2.2.2.2⟩
theorem checkWith_spec {j mask : Nat} {y : Foot} : ∀ {l : List Foot} {k : Nat}, checkWith j mask y k l = true → ∀ (i : Nat) (x : Foot), l[i]? = some x → Nat.testBit mask (k + i) = true ∨ Indep x y
  | [], _, _, i, x, h => by simp at h
  | z :: l, k, h, i, x, hx => by
    simp only [checkWith, Bool.and_eq_true, Bool.or_eq_true] at h
    cases i with
    | zero => simp at hx; subst hx; exact h.1.imp id indep_of
    | succ i =>
      have := checkWith_spec h.2 i x (by simpa using hx)
      rw [show k + 1 + i = k + (i + 1) from by omega] at this
      exact this
theorem checkAll_spec {masks : List Nat} {all : List Foot} : ∀ {l : List Foot} {k : Nat}, all.drop k = l → checkAll masks all k l = true → ∀ (i j : Nat) (x y : Foot), k ≤ j → i < j → all[i]? = some x → all[j]? = some y → Nat.testBit (masks.getD j 0) i = true ∨ Indep x y
  | [], k, hl, _, i, j, x, y, hk, hij, hx, hy => by
    have h1 := congrArg List.length hl
    simp at h1
    have h2 := (List.getElem?_eq_some_iff.1 hy).1
    omega
  | z :: l, k, hl, h, i, j, x, y, hk, hij, hx, hy => by
    simp only [checkAll, Bool.and_eq_true] at h
    by_cases e : j = k
    · subst e
      have hz : z = y := by
        have := congrArg (·[0]?) hl
        simp at this
        rw [hy] at this; exact (Option.some.inj this).symm
      subst hz
      have := checkWith_spec h.1 i x (by rw [List.getElem?_take, if_pos hij]; exact hx)
      rwa [Nat.zero_add] at this
    · exact checkAll_spec (k := k + 1) (by have := congrArg (List.drop 1) hl; simpa [List.drop_drop] using this) h.2 i j x y (by omega) hij hx hy

/-- A set of operations that holds with each one those that its edges name. -/
def ClosedAt (L : Nat → Bool) (o : Oper) : Prop := ∀ e ∈ o.after.toList, Region.binds .any e = true → L e.on = true
theorem ahead_spec {L : Nat → Bool} {masks : List Nat} (hm : ∀ k, L k = true → ∀ i, Nat.testBit (masks.getD k 0) i = true → L i = true) : ∀ {l : List Edge} {m : Nat}, (∀ i, Nat.testBit m i = true → L i = true) → (∀ e ∈ l, Region.binds .any e = true → L e.on = true) →
    ∀ i, Nat.testBit (ahead masks l m) i = true → L i = true
  | [], m, h, _, i, hi => h i hi
  | e :: l, m, h, he, i, hi => by
    simp only [ahead] at hi
    cases hb : Region.binds .any e with
    | false =>
      simp only [hb] at hi
      exact ahead_spec hm h (fun x hx => he x (List.mem_cons_of_mem _ hx)) i hi
    | true =>
      simp only [hb] at hi
      refine ahead_spec hm (fun k hk => ?_) (fun x hx => he x (List.mem_cons_of_mem _ hx)) i hi
      rw [Nat.testBit_or, Nat.testBit_or] at hk
      simp only [Bool.or_eq_true] at hk
      have hon := he e List.mem_cons_self hb
      rcases hk with hk | hk | hk
      · exact h k hk
      · rw [Nat.testBit_two_pow] at hk
        simp at hk; subst hk; exact hon
      · exact hm _ hon k hk
theorem masksOf_length : ∀ (l : List Oper) (ms : List Nat), (masksOf l ms).length = ms.length + l.length
  | [], ms => by simp [masksOf]
  | o :: l, ms => by simp [masksOf, masksOf_length l]; omega
theorem masksOf_prefix : ∀ (l : List Oper) (ms : List Nat) (k : Nat), k < ms.length → (masksOf l ms).getD k 0 = ms.getD k 0
  | [], ms, k, _ => rfl
  | o :: l, ms, k, h => by
    simp only [masksOf]
    rw [masksOf_prefix l _ k (by simp; omega)]
    simp [List.getD, List.getElem?_append_left h]
theorem masksOf_spec (ops : List Oper) (L : Nat → Bool) : ∀ (l : List Oper) (ms : List Nat), ops.drop ms.length = l → edgesOk ms.length l = true → (∀ k, k < ms.length → ClosedAt L (ops.getD k default) → (∀ j, j < k → L j = true → ClosedAt L (ops.getD j default)) → ∀ i, Nat.testBit (ms.getD k 0) i = true → L i = true) →
    ∀ k, k < ops.length → ClosedAt L (ops.getD k default) → (∀ j, j < k → L j = true → ClosedAt L (ops.getD j default)) → ∀ i, Nat.testBit ((masksOf l ms).getD k 0) i = true → L i = true
  | [], ms, hl, _, hms, k, hk, hc, hj, i, hi => by
    have h1 := congrArg List.length hl
    simp at h1
    exact hms k (by omega) hc hj i hi
  | o :: l, ms, hl, hed, hms, k, hk, hc, hj, i, hi => by
    simp only [edgesOk, Bool.and_eq_true, List.all_eq_true] at hed
    have ho : ops[ms.length]? = some o := by
      have := congrArg (·[0]?) hl
      simpa using this
    refine masksOf_spec ops L l (ms ++ [ahead ms o.after.toList 0]) (by have := congrArg (List.drop 1) hl; simpa [List.drop_drop] using this) (by simpa using hed.2) (fun q hq hcq hjq x hx => ?_) k hk hc hj i (by simpa [masksOf] using hi)
    simp only [List.length_append, List.length_cons, List.length_nil] at hq
    by_cases e : q = ms.length
    · subst e
      have hgd : (ms ++ [ahead ms o.after.toList 0]).getD ms.length 0 = ahead ms o.after.toList 0 := by simp [List.getD]
      rw [hgd] at hx
      have hod : ops.getD ms.length default = o := by simp [List.getD, ho]
      rw [hod] at hcq
      -- only masks of earlier operations are looked at
      have key : ∀ (es : List Edge) (m : Nat), (∀ e ∈ es, Region.binds .any e = true → e.on < ms.length ∧ L e.on = true) → (∀ i, Nat.testBit m i = true → L i = true) → ∀ i, Nat.testBit (ahead ms es m) i = true → L i = true := by
        intro es
        induction es with
        | nil => intro m _ hm i hi; exact hm i hi
        | cons e es ih =>
          intro m he hm i hi
          simp only [ahead] at hi
          cases hb : Region.binds .any e with
          | false => simp only [hb] at hi; exact ih m (fun x hx => he x (List.mem_cons_of_mem _ hx)) hm i hi
          | true =>
            simp only [hb] at hi
            refine ih _ (fun x hx => he x (List.mem_cons_of_mem _ hx)) (fun k hk => ?_) i hi
            rw [Nat.testBit_or, Nat.testBit_or] at hk
            simp only [Bool.or_eq_true] at hk
            obtain ⟨h1, h2⟩ := he e List.mem_cons_self hb
            rcases hk with hk | hk | hk
            · exact hm k hk
            · rw [Nat.testBit_two_pow] at hk
              simp at hk; subst hk; exact h2
            · exact hms e.on h1 (hjq e.on h1 h2) (fun j hj' => hjq j (by omega)) k hk
      refine key o.after.toList 0 (fun e he hb => ⟨?_, hcq e he hb⟩) (fun i hi => by simp at hi) x hx
      have := hed.1 e he
      simp only [hb, Bool.not_true, Bool.false_or] at this
      exact Nat.le_of_ble_eq_true this
    · have hq' : q < ms.length := by omega
      have hgd : (ms ++ [ahead ms o.after.toList 0]).getD q 0 = ms.getD q 0 := by simp [List.getD, List.getElem?_append_left hq']
      rw [hgd] at hx
      exact hms q hq' hcq hjq x hx

end Go.Sx

namespace Go.Sx

section
variable {P : Program}

theorem parOps_fn {rec : Rec} (hl : LocalR rec) {ops : List Oper} : ∀ (l : List Oper) (T T' : List Value) (F : List Foot) (d : Advice) (s s' : St), parOps P rec ops l T d s = some ((T', F), s') →
    ∃ f : Nat → List Value × St, f 0 = (T, s) ∧ (f l.length).1 = T' ∧ ((f l.length).2 = s') ∧ F.length = l.length ∧ (∀ i o, l[i]? = some o → ∃ v t, stepV P rec ops (f i).1 o d ⟨(f i).2.c, (f i).2.k, (f i).2.h, [], [], (f i).2.V⟩ = some (v, t) ∧
      (f (i + 1)).1 = putT (f i).1 o.dst v ∧ (f (i + 1)).2.c = t.c ∧ (f (i + 1)).2.h = t.h ∧ (f (i + 1)).2.V = t.V ∧ F[i]? = some ⟨looks ops o, o.dst.toList, t.R, t.W⟩)
  | [], T, T', F, d, s, s', h => by
    obtain ⟨h1, rfl⟩ := pure_some (d := d) h
    cases h1
    exact ⟨fun _ => (T, s), rfl, rfl, rfl, rfl, fun i o hi => by simp at hi⟩
  | o :: l, T, T', F, d, s, s', h => by
    obtain ⟨⟨v, R, W⟩, s1, h1, h2⟩ := bind_some (d := d) h
    obtain ⟨⟨T2, F2⟩, s2, h3, h4⟩ := bind_some h2
    obtain ⟨h5, rfl⟩ := pure_some h4
    simp only [Prod.mk.injEq] at h5
    obtain ⟨rfl, rfl⟩ := h5
    unfold scopeX at h1
    cases e : stepV P rec ops T o d { s with R := [], W := [] } with
    | none => simp [e] at h1
    | some p =>
      obtain ⟨v', t⟩ := p
      simp only [e, Option.some.injEq, Prod.mk.injEq] at h1
      obtain ⟨⟨rfl, rfl, rfl⟩, rfl⟩ := h1
      obtain ⟨f, f0, f1, f2, f3, f4⟩ := parOps_fn hl l _ _ _ d _ _ h3
      refine ⟨fun | 0 => (T, s) | i + 1 => f i, rfl, f1, f2, by simp [f3], fun i o' hi => ?_⟩
      cases i with
      | zero =>
        simp at hi; subst hi
        exact ⟨v', t, e, by simp [f0], by simp [f0], by simp [f0], by simp [f0], rfl⟩
      | succ i =>
        obtain ⟨v2, t2, g⟩ := f4 i o' (by simpa using hi)
        exact ⟨v2, t2, by simpa using g⟩

def unl (L : Nat → Bool) : Nat → Nat
  | 0 => 0
  | k + 1 => unl L k + (if L k then 0 else 1)
theorem unl_congr {L M : Nat → Bool} : ∀ {k : Nat}, (∀ i, i < k → L i = M i) → unl L k = unl M k
  | 0, _ => rfl
  | k + 1, h => by simp only [unl]; rw [unl_congr fun i hi => h i (by omega), h k (by omega)]
theorem unl_set {L M : Nat → Bool} {q : Nat} (hq : L q = false) (hM : M q = true) (ho : ∀ i, i ≠ q → M i = L i) : ∀ {k : Nat}, q < k → unl M k + 1 = unl L k
  | 0, h => by omega
  | k + 1, h => by
    simp only [unl]
    by_cases e : q = k
    · subst e
      have : unl M q = unl L q := unl_congr fun i hi => ho i (by omega)
      simp [this, hq, hM]
    · have := unl_set hq hM ho (k := k) (by omega)
      rw [ho k (Ne.symm e)]
      omega
theorem unl_zero {L : Nat → Bool} : ∀ {k : Nat}, unl L k = 0 → ∀ i, i < k → L i = true
  | 0, _, i, hi => by omega
  | k + 1, h, i, hi => by
    simp only [unl] at h
    by_cases e : i = k
    · subst e; cases hL : L i with
      | true => rfl
      | false => simp [hL] at h
    · exact unl_zero (k := k) (by omega) i (by omega)

theorem par_any {rec : Rec} (hr : RecSnd P rec) {ops : Array Oper} {T T' : List Value} {d : Advice} {s s' : St} (h : parX P rec ops.toList T d s = some (T', s')) :
    (VCs s'.V → VCs s.V) ∧ (VCs s'.V → ∀ (r0 : Env) (ow0 : Nat → Option Nat) (w0 : World) (a0 : Act), Sat P r0 ow0 s.h w0 → Fresh r0 s.c s'.c → RelL r0 T a0.tmps.toList → a0.defers = [] → ∀ (Q : Exit → Act → World → Prop),
      (∀ r' ow' a' w', Post P r0 ow0 w0 s r' ow' w' s' → RelL r' T' a'.tmps.toList → a'.defers = [] → Q .normal a' w') → wpAny P .any ops Q ops.size (Array.replicate ops.size false) a0 w0) := by
  unfold parX at h
  obtain ⟨⟨T2, F⟩, s1, h1, h2⟩ := bind_some h
  obtain ⟨_, s2, h3, h4⟩ := bind_some h2
  obtain ⟨hchk, rfl⟩ := need_some h3
  obtain ⟨h5, rfl⟩ := pure_some h4
  simp only at h5 hchk
  subst h5
  simp only [Bool.and_eq_true] at hchk
  obtain ⟨hedge, hall⟩ := hchk
  obtain ⟨f, f0, fT, fS, fF, fstep⟩ := parOps_fn hr.loc ops.toList T T2 F d s s1 h1
  have hn : ops.toList.length = ops.size := by simp
  rw [hn] at fT fS fF
  -- the counter and the conditions only grow
  have hgrow : ∀ i, i < ops.size → (f i).2.c ≤ (f (i + 1)).2.c ∧ (VCs (f (i + 1)).2.V → VCs (f i).2.V) := by
    intro i hi
    obtain ⟨v, t, e1, e2, e3, e4, e5, e6⟩ := fstep i ops[i] (by simp [hi])
    have hloc := Local.stepV hr.loc ops.toList (f i).1 ops[i] d _ _ _ e1
    refine ⟨by rw [e3]; exact hloc.1, fun hV => ?_⟩
    rw [e5] at hV
    exact (stepV_snd hr.mono (i := i) (o := ops[i]) (by simp [hi]) e1).1 hV
  have hc : ∀ j i, i ≤ j → j ≤ ops.size → (f i).2.c ≤ (f j).2.c := by
    intro j
    induction j with
    | zero => intro i hi _; obtain rfl : i = 0 := (by omega); exact Nat.le_refl _
    | succ j ih =>
      intro i hi hj
      by_cases e : i = j + 1
      · subst e; exact Nat.le_refl _
      · exact Nat.le_trans (ih i (by omega) (by omega)) (hgrow j (by omega)).1
  have hVn : ∀ j i, i ≤ j → j ≤ ops.size → VCs (f j).2.V → VCs (f i).2.V := by
    intro j
    induction j with
    | zero => intro i hi _ hV; obtain rfl : i = 0 := (by omega); exact hV
    | succ j ih =>
      intro i hi hj hV
      by_cases e : i = j + 1
      · subst e; exact hV
      · exact ih i (by omega) (by omega) ((hgrow j (by omega)).2 hV)
  have hV0 : VCs s1.V → VCs s.V := fun hV => by
    have := hVn ops.size 0 (Nat.zero_le _) (Nat.le_refl _) (by rw [fS]; exact hV)
    rw [f0] at this; exact this
  refine ⟨hV0, fun hV r0 ow0 w0 a0 hs0 hf0 ha0 hd0 Q hQ => ?_⟩
  have hVi : ∀ i, i ≤ ops.size → VCs (f i).2.V := fun i hi => hVn ops.size i hi (Nat.le_refl _) (by rw [fS]; exact hV)
  have hc0 : (f 0).2.c = s.c := by rw [f0]
  have hcn : (f ops.size).2.c = s1.c := by rw [fS]
  -- what is not written does not turn
  have hkeepN : ∀ i, i < ops.size → ∀ ft, F[i]? = some ft → ∀ n, n ∉ ft.W → (f (i + 1)).2.h.get n = (f i).2.h.get n := by
    intro i hi ft hft n hn'
    obtain ⟨v, t, e1, e2, e3, e4, e5, e6⟩ := fstep i ops[i] (by simp [hi])
    rw [e6] at hft; cases hft
    obtain ⟨_, R, W, V, q1, q2, q3, q4, q5⟩ := Local.stepV hr.loc ops.toList (f i).1 ops[i] d _ _ _ e1
    simp only [List.append_nil] at q2
    rw [e4]
    exact q4 n (by rw [← q2]; exact hn')
  have hkeepT : ∀ i, i < ops.size → ∀ ft, F[i]? = some ft → ∀ t, t ∉ ft.tw → (f (i + 1)).1.getD t undef = (f i).1.getD t undef := by
    intro i hi ft hft t ht
    obtain ⟨v, tt, e1, e2, e3, e4, e5, e6⟩ := fstep i ops[i] (by simp [hi])
    rw [e6] at hft; cases hft
    rw [e2]
    cases hd : ops[i].dst with
    | none => rfl
    | some dd =>
      simp only [hd, Option.toList_some, List.mem_singleton] at ht
      simp [putT, List.getD, List.getElem?_set_ne (Ne.symm ht)]
  have hlenT : ∀ i, i ≤ ops.size → (f i).1.length = T.length := by
    intro i
    induction i with
    | zero => intro _; rw [f0]
    | succ i ih =>
      intro hi
      obtain ⟨v, tt, e1, e2, e3, e4, e5, e6⟩ := fstep i ops[i] (by simp [show i < ops.size by omega])
      rw [e2, ← ih (by omega)]
      cases ops[i].dst <;> simp [putT]
  have hFi : ∀ i, i < ops.size → ∃ ft, F[i]? = some ft := fun i hi => ⟨F[i], by simp [fF, hi]⟩
  -- no writer between two places: the same
  have hbetN : ∀ n b a, a ≤ b → b ≤ ops.size → (∀ j ft, a ≤ j → j < b → F[j]? = some ft → n ∉ ft.W) → (f b).2.h.get n = (f a).2.h.get n := by
    intro n b
    induction b with
    | zero => intro a ha _ _; obtain rfl : a = 0 := (by omega); rfl
    | succ b ih =>
      intro a ha hb hw
      by_cases e : a = b + 1
      · subst e; rfl
      · obtain ⟨ft, hft⟩ := hFi b (by omega)
        rw [hkeepN b (by omega) ft hft n (hw b ft (by omega) (by omega) hft)]
        exact ih a (by omega) (by omega) fun j ft' h1 h2 h3 => hw j ft' h1 (by omega) h3
  have hbetT : ∀ t b a, a ≤ b → b ≤ ops.size → (∀ j ft, a ≤ j → j < b → F[j]? = some ft → t ∉ ft.tw) → (f b).1.getD t undef = (f a).1.getD t undef := by
    intro t b
    induction b with
    | zero => intro a ha _ _; obtain rfl : a = 0 := (by omega); rfl
    | succ b ih =>
      intro a ha hb hw
      by_cases e : a = b + 1
      · subst e; rfl
      · obtain ⟨ft, hft⟩ := hFi b (by omega)
        rw [hkeepT b (by omega) ft hft t (hw b ft (by omega) (by omega) hft)]
        exact ih a (by omega) (by omega) fun j ft' h1 h2 h3 => hw j ft' h1 (by omega) h3
  -- the walk, whatever comes up
  have main : ∀ (fuel : Nat) (listed : Array Bool) (r : Env) (ow : Nat → Option Nat) (hT : Heap) (TT : List Value) (a : Act) (w : World),
      listed.size = ops.size → (∀ j, j < ops.size → listed.getD j false = true → ClosedAt (fun k => listed.getD k false) (ops.toList.getD j default)) →
      (∀ t p, p ≤ ops.size → (∀ j ft, F[j]? = some ft → t ∈ ft.tw → (listed.getD j false = true ↔ j < p)) → TT.getD t undef = (f p).1.getD t undef) → TT.length = T.length →
      (∀ n p, p ≤ ops.size → (∀ j ft, F[j]? = some ft → n ∈ ft.W → (listed.getD j false = true ↔ j < p)) → hT.get n = (f p).2.h.get n) →
      (∀ m, (r.blk m ≠ none ∨ r.val m ≠ none) → (r0.blk m ≠ none ∨ r0.val m ≠ none) ∨ ∃ j, j < ops.size ∧ listed.getD j false = true ∧ (f j).2.c ≤ m ∧ m < (f (j + 1)).2.c) →
      Sat P r ow hT w → RelL r TT a.tmps.toList → a.defers = [] → r0.Le r → New r0 r s.c s1.c → Frame ow0 w0 ow w → (∀ b n, ow b = some n → (∃ b', ow0 b' = some n) ∨ (s.c ≤ n ∧ n < s1.c)) →
      unl (fun k => listed.getD k false) ops.size ≤ fuel → wpAny P .any ops Q fuel listed a w := by
    -- all have come up
    have fin : ∀ (listed : Array Bool) (r : Env) (ow : Nat → Option Nat) (hT : Heap) (TT : List Value) (a : Act) (w : World),
        (∀ j, j < ops.size → listed.getD j false = true) →
        (∀ t p, p ≤ ops.size → (∀ j ft, F[j]? = some ft → t ∈ ft.tw → (listed.getD j false = true ↔ j < p)) → TT.getD t undef = (f p).1.getD t undef) → TT.length = T.length →
        (∀ n p, p ≤ ops.size → (∀ j ft, F[j]? = some ft → n ∈ ft.W → (listed.getD j false = true ↔ j < p)) → hT.get n = (f p).2.h.get n) →
        Sat P r ow hT w → RelL r TT a.tmps.toList → a.defers = [] → r0.Le r → New r0 r s.c s1.c → Frame ow0 w0 ow w → (∀ b n, ow b = some n → (∃ b', ow0 b' = some n) ∨ (s.c ≤ n ∧ n < s1.c)) → Q .normal a w := by
      intro listed r ow hT TT a w hall' hT1 hTl hN1 hs ha hd hle hnew hfr hown
      have hjl : ∀ j (ft : Foot), F[j]? = some ft → (listed.getD j false = true ↔ j < ops.size) := fun j ft hft => by
        have : j < ops.size := by rw [← fF]; exact (List.getElem?_eq_some_iff.1 hft).1
        exact ⟨fun _ => this, fun _ => hall' j this⟩
      have e1 : TT = T2 := by
        apply List.ext_getElem?
        intro k
        have h7 := hT1 k ops.size (Nat.le_refl _) (fun j ft hft _ => hjl j ft hft)
        rw [fT] at h7
        have hl2 : TT.length = T2.length := by rw [hTl, ← hlenT ops.size (Nat.le_refl _), fT]
        rw [List.getD_eq_getElem?_getD, List.getD_eq_getElem?_getD] at h7
        by_cases hk : k < TT.length
        · have hk2 : k < T2.length := by omega
          rw [List.getElem?_eq_getElem hk, List.getElem?_eq_getElem hk2] at h7 ⊢
          simpa using h7
        · rw [List.getElem?_eq_none (by omega), List.getElem?_eq_none (by omega)]
      subst e1
      have hget : ∀ n, s1.h.get n = hT.get n := fun n => by
        have h7 := hN1 n ops.size (Nat.le_refl _) (fun j ft hft _ => hjl j ft hft)
        rw [fS] at h7; exact h7.symm
      refine hQ r ow a w ⟨hle, hs.get_eq hget, hfr, hnew, ?_, hown⟩ ha hd
      have := hc ops.size 0 (Nat.zero_le _) (Nat.le_refl _)
      rw [hc0, hcn] at this; exact this
    intro fuel
    induction fuel with
    | zero =>
      intro listed r ow hT TT a w hsz hcl hT1 hTl hN1 hrn hs ha hd hle hnew hfr hown hfu
      have hall' := unl_zero (Nat.le_zero.1 hfu)
      refine ⟨?_, fin listed r ow hT TT a w hall' hT1 hTl hN1 hs ha hd hle hnew hfr hown⟩
      unfold Region.ready
      rw [List.filter_eq_nil_iff]
      intro i hi
      have hi' : i < ops.size := List.mem_range.1 hi
      have : listed.getD i true = true := by
        have h7 := hall' i hi'
        simp only [Array.getD_eq_getD_getElem?] at h7 ⊢
        rw [Array.getElem?_eq_getElem (by omega)] at h7 ⊢
        simpa using h7
      simp [this]
    | succ fuel ih =>
      intro listed r ow hT TT a w hsz hcl hT1 hTl hN1 hrn hs ha hd hle hnew hfr hown hfu
      have hgd : ∀ i, i < ops.size → listed.getD i true = listed.getD i false := fun i hi => by
        simp only [Array.getD_eq_getD_getElem?]
        rw [Array.getElem?_eq_getElem (by omega)]; rfl
      refine ⟨fun hnil => ?_, fun i hi => ?_⟩
      · -- nothing is ready: all have come up
        have hall' : ∀ j, j < ops.size → listed.getD j false = true := by
          intro j
          induction j using Nat.strongRecOn with
          | _ j ihj =>
            intro hj
            cases hL : listed.getD j false with
            | true => rfl
            | false =>
              exfalso
              have hmem : j ∈ Region.ready .any ops listed := by
                unfold Region.ready
                rw [List.mem_filter]
                refine ⟨List.mem_range.2 hj, ?_⟩
                have hoj : ops[j]? = some ops[j] := by simp [hj]
                simp only [hgd j hj, hL, Bool.not_false, Bool.true_and, hoj, Option.map_some, Option.getD_some]
                rw [Array.all_eq_true]
                intro q hq
                cases hb : Region.binds .any (ops[j].after[q]) with
                | false => simp
                | true =>
                  simp only [Bool.not_true, Bool.false_or]
                  -- edges lead back
                  have hback : ∀ (l : List Oper) (k : Nat), edgesOk k l = true → ∀ (i : Nat) (o : Oper), l[i]? = some o → ∀ e ∈ o.after.toList, Region.binds .any e = true → e.on < k + i := by
                    intro l
                    induction l with
                    | nil => intro k _ i o ho; simp at ho
                    | cons o' l ihl =>
                      intro k hk i o ho e he hbe
                      simp only [edgesOk, Bool.and_eq_true, List.all_eq_true] at hk
                      cases i with
                      | zero =>
                        simp at ho; subst ho
                        have := hk.1 e he
                        simp only [hbe, Bool.not_true, Bool.false_or] at this
                        exact Nat.le_of_ble_eq_true this
                      | succ i =>
                        have := ihl (k + 1) hk.2 i o (by simpa using ho) e he hbe
                        omega
                  have hlt := hback ops.toList 0 hedge j ops[j] (by simp [hj]) (ops[j].after[q]) (by simp) hb
                  rw [Nat.zero_add] at hlt
                  exact ihj _ hlt (by omega)
              rw [hnil] at hmem; cases hmem
        exact fin listed r ow hT TT a w hall' hT1 hTl hN1 hs ha hd hle hnew hfr hown
      · -- operation number i comes up
        unfold Region.ready at hi
        rw [List.mem_filter] at hi
        obtain ⟨hir, hi2⟩ := hi
        have hi' : i < ops.size := List.mem_range.1 hir
        have hoi : ops[i]? = some ops[i] := by simp [hi']
        simp only [hoi, Option.map_some, Option.getD_some, Bool.and_eq_true, Bool.not_eq_true', hgd i hi'] at hi2
        obtain ⟨hLi, hpre⟩ := hi2
        have hcli : ClosedAt (fun k => listed.getD k false) ops[i] := by
          intro e he hb
          rw [Array.all_eq_true] at hpre
          obtain ⟨q, hq, rfl⟩ := Array.getElem_of_mem (Array.mem_toList_iff.1 he)
          have := hpre q hq
          simpa [hb] using this
        obtain ⟨v, t, e1, e2, e3, e4, e5, e6⟩ := fstep i ops[i] (by simp [hi'])
        have hci : (f i).2.c ≤ (f (i + 1)).2.c := (hgrow i hi').1
        have hFj : ∀ j (ft : Foot), F[j]? = some ft → j < ops.size := fun j ft hft => by rw [← fF]; exact (List.getElem?_eq_some_iff.1 hft).1
        have hmask := fun k hk hck hjk => masksOf_spec ops.toList (fun k => listed.getD k false) ops.toList [] rfl hedge (fun k hk => by simp at hk) k hk hck hjk
        have hclD : ∀ j, j < ops.size → listed.getD j false = true → ClosedAt (fun k => listed.getD k false) (ops.toList.getD j default) := hcl
        have hgi : ops.toList.getD i default = ops[i] := by simp [List.getD, hi']
        -- those ahead of i have come up; those behind i have not
        have hbefore : ∀ j, Nat.testBit ((masksOf ops.toList []).getD i 0) j = true → listed.getD j false = true :=
          fun j hj => hmask i (by simpa using hi') (by rw [hgi]; exact hcli) (fun j' hj' hL' => hclD j' (by omega) hL') j hj
        have hbehind : ∀ j, j < ops.size → Nat.testBit ((masksOf ops.toList []).getD j 0) i = true → listed.getD j false = true → False := by
          intro j hj hbit hL
          have := hmask j (by simpa using hj) (hclD j hj hL) (fun j' hj' hL' => hclD j' (by omega) hL') i hbit
          rw [hLi] at this; cases this
        -- who touches what i touches stands on the right side of it
        have hside : ∀ (j : Nat) (ft : Foot), F[j]? = some ft → (∃ fi : Foot, F[i]? = some fi ∧ ((i < j → Indep fi ft → False) ∧ (j < i → Indep ft fi → False))) → (listed.getD j false = true ↔ j < i) := by
          intro j ft hft ⟨fi, hfi, h1, h2⟩
          have hj := hFj j ft hft
          rcases Nat.lt_trichotomy j i with hlt | heq | hgt
          · refine ⟨fun _ => hlt, fun _ => ?_⟩
            rcases checkAll_spec (masks := masksOf ops.toList []) (all := F) (l := F) (k := 0) rfl hall j i ft fi (Nat.zero_le _) hlt hft hfi with hb | hb
            · exact hbefore j hb
            · exact (h2 hlt hb).elim
          · subst heq
            refine ⟨fun hL => ?_, fun hlt => absurd hlt (Nat.lt_irrefl _)⟩
            rw [hLi] at hL; cases hL
          · refine ⟨fun hL => ?_, fun hlt => by omega⟩
            rcases checkAll_spec (masks := masksOf ops.toList []) (all := F) (l := F) (k := 0) rfl hall i j fi ft (Nat.zero_le _) hgt hfi hft with hb | hb
            · exact (hbehind j hj hb hL).elim
            · exact (h1 hgt hb).elim
        -- what i looks at is as it was in the text's order
        have hlook : ∀ x ∈ looks ops.toList ops[i], TT.getD x undef = (f i).1.getD x undef := fun x hx =>
          hT1 x i (Nat.le_of_lt hi') fun j ft hft hxw => hside j ft hft ⟨_, e6, fun _ hin => hin.rt x hx hxw, fun _ hin => hin.tr x hxw hx⟩
        have hnames : ∀ n, n ∈ t.R ∨ n ∈ t.W → hT.get n = (f i).2.h.get n := fun n hn' =>
          hN1 n i (Nat.le_of_lt hi') fun j ft hft hxw => hside j ft hft ⟨_, e6, fun _ hin => by
            rcases hn' with h7 | h7
            · exact hin.RW n h7 hxw
            · exact hin.WW n h7 hxw, fun _ hin => by
            rcases hn' with h7 | h7
            · exact hin.WR n hxw h7
            · exact hin.WW n hxw h7⟩
        rw [stepV_congr (U := TT) fun x hx => (hlook x hx).symm] at e1
        obtain ⟨_, R, W, V, q1, q2, q3, q4, q5⟩ := Local.stepV hr.loc ops.toList TT ops[i] d _ _ _ e1
        simp only [List.append_nil] at q1 q2
        obtain ⟨h2, e1', g1, g2⟩ := q5 ⟨(f i).2.c, (f i).2.k, hT, [], [], (f i).2.V⟩ rfl rfl (fun n hn' => hnames n (by rw [q1, q2]; exact hn'))
        simp only [List.append_nil] at e1'
        obtain ⟨_, snd⟩ := stepV_snd hr.mono hoi e1'
        have hVt : VCs (V ++ (f i).2.V) := by
          have := hVi (i + 1) hi'
          rw [e5, q3] at this; exact this
        have hfresh : Fresh r (f i).2.c t.c := by
          intro m hm1 hm2
          have hno : ¬ (r.blk m ≠ none ∨ r.val m ≠ none) := by
            intro hk
            rcases hrn m hk with hk0 | ⟨j, hj, hLj, hj1, hj2⟩
            · have h8 := hc i 0 (Nat.zero_le _) (Nat.le_of_lt hi')
              rw [hc0] at h8
              have h9 := hc ops.size (i + 1) hi' (Nat.le_refl _)
              rw [hcn, e3] at h9
              have := hf0 m (by omega) (by omega)
              rcases hk0 with hk0 | hk0
              · exact hk0 this.1
              · exact hk0 this.2
            · rcases Nat.lt_trichotomy j i with hlt | heq | hgt
              · have := hc i (j + 1) hlt (Nat.le_of_lt hi'); omega
              · subst heq; rw [hLi] at hLj; cases hLj
              · have := hc j (i + 1) hgt (by omega); rw [e3] at this; omega
          refine ⟨?_, ?_⟩
          · cases e : r.blk m with
            | none => rfl
            | some _ => exact absurd (.inl (by simp [e])) hno
          · cases e : r.val m with
            | none => rfl
            | some _ => exact absurd (.inr (by simp [e])) hno
        refine snd hVt r ow w a hs hfresh ha _ _ fun r' ow' u w' hp hu => ?_
        -- the walk goes on
        have hset : ∀ k, (listed.setIfInBounds i true).getD k false = if k = i then true else listed.getD k false := by
          intro k
          simp only [Array.getD_eq_getD_getElem?, Array.getElem?_setIfInBounds]
          by_cases hk : i = k
          · subst hk; simp [show i < listed.size by omega]
          · simp [hk, Ne.symm hk]
        have hc1 : s.c ≤ (f i).2.c := by have := hc i 0 (Nat.zero_le _) (Nat.le_of_lt hi'); rw [hc0] at this; exact this
        have hc2 : t.c ≤ s1.c := by have := hc ops.size (i + 1) hi' (Nat.le_refl _); rw [hcn, e3] at this; exact this
        refine ih (listed.setIfInBounds i true) r' ow' h2 (putT TT ops[i].dst v) _ w' (by simp [hsz]) ?_ ?_ ?_ ?_ ?_ hp.sat (putT_rel (ha.mono hp.le) _ hu) (by rw [put_defers]; exact hd) (hle.trans hp.le) ?_ (hfr.trans hp.frame) ?_ ?_
        · -- closed
          intro j hj hL e he hb
          simp only [hset] at hL ⊢
          by_cases hji : j = i
          · subst hji
            have := hcli e (by rw [← hgi]; exact he) hb
            simp only at this
            simp [this]
          · rw [if_neg hji] at hL
            have := hcl j hj hL e he hb
            simp only at this
            simp [this]
        · -- slots
          intro x p hp' hx
          by_cases hxd : x ∈ ops[i].dst.toList
          · have hpi : i < p := by
              have := (hx i _ e6 hxd).1 (by rw [hset]; simp)
              exact this
            have hbet := hbetT x p (i + 1) hpi hp' (fun j ft h7 h8 hft hxw => by
              have hL := (hx j ft hft hxw).2 h8
              rw [hset, if_neg (by omega)] at hL
              rcases checkAll_spec (masks := masksOf ops.toList []) (all := F) (l := F) (k := 0) rfl hall i j _ ft (Nat.zero_le _) (by omega) e6 hft with hb | hb
              · exact hbehind j (hFj j ft hft) hb hL
              · exact hb.tw x hxd hxw)
            rw [hbet, e2]
            cases hd' : ops[i].dst with
            | none => rw [hd'] at hxd; simp at hxd
            | some dd =>
              rw [hd'] at hxd
              simp only [Option.toList_some, List.mem_singleton] at hxd
              subst hxd
              simp only [putT, List.getD_eq_getElem?_getD, List.getElem?_set]
              have : (f i).1.length = TT.length := by rw [hTl, hlenT i (Nat.le_of_lt hi')]
              simp [this]
          · have hput : ∀ (L : List Value) (y : Value), (putT L ops[i].dst y).getD x undef = L.getD x undef := by
              intro L y
              cases hd' : ops[i].dst with
              | none => rfl
              | some dd =>
                rw [hd'] at hxd
                simp only [Option.toList_some, List.mem_singleton] at hxd
                simp [putT, List.getD, List.getElem?_set_ne (Ne.symm hxd)]
            rw [hput]
            refine hT1 x p hp' fun j ft hft hxw => ?_
            have := hx j ft hft hxw
            rw [hset] at this
            by_cases hji : j = i
            · subst hji; rw [e6] at hft; cases hft; exact absurd hxw hxd
            · rwa [if_neg hji] at this
        · -- how many slots
          cases ops[i].dst <;> simp [putT, hTl]
        · -- names
          intro n p hp' hx
          by_cases hxd : n ∈ t.W
          · have hpi : i < p := (hx i _ e6 hxd).1 (by rw [hset]; simp)
            have hbet := hbetN n p (i + 1) hpi hp' (fun j ft h7 h8 hft hxw => by
              have hL := (hx j ft hft hxw).2 h8
              rw [hset, if_neg (by omega)] at hL
              rcases checkAll_spec (masks := masksOf ops.toList []) (all := F) (l := F) (k := 0) rfl hall i j _ ft (Nat.zero_le _) (by omega) e6 hft with hb | hb
              · exact hbehind j (hFj j ft hft) hb hL
              · exact hb.WW n hxd hxw)
            rw [hbet, e4]
            exact g1 n (by rw [← q2]; exact hxd)
          · rw [g2 n (by rw [← q2]; exact hxd)]
            refine hN1 n p hp' fun j ft hft hxw => ?_
            have := hx j ft hft hxw
            rw [hset] at this
            by_cases hji : j = i
            · subst hji; rw [e6] at hft; cases hft; exact absurd hxw hxd
            · rwa [if_neg hji] at this
        · -- whose names there are
          intro m hm
          have hm' : (r.blk m ≠ none ∨ r.val m ≠ none) ∨ ((f i).2.c ≤ m ∧ m < t.c) := by
            rcases hm with hm | hm
            · rcases hp.new.1 m hm with h7 | h7
              · exact .inl (.inl h7)
              · exact .inr h7
            · rcases hp.new.2 m hm with h7 | h7
              · exact .inl (.inr h7)
              · exact .inr h7
          rcases hm' with h7 | h7
          · rcases hrn m h7 with h8 | ⟨j, hj, hL, h9⟩
            · exact .inl h8
            · exact .inr ⟨j, hj, by rw [hset]; split; rfl; exact hL, h9⟩
          · exact .inr ⟨i, hi', by rw [hset]; simp, h7.1, by rw [e3]; exact h7.2⟩
        · -- new names
          refine ⟨fun m hm => ?_, fun m hm => ?_⟩
          · rcases hp.new.1 m hm with h7 | ⟨h7, h8⟩
            · exact hnew.1 m h7
            · exact .inr ⟨by simp only at h7; omega, by simp only at h8; omega⟩
          · rcases hp.new.2 m hm with h7 | ⟨h7, h8⟩
            · exact hnew.2 m h7
            · exact .inr ⟨by simp only at h7; omega, by simp only at h8; omega⟩
        · -- owners
          intro b n hb
          rcases hp.own b n hb with ⟨b', hb'⟩ | ⟨h7, h8⟩
          · exact hown b' n hb'
          · exact .inr ⟨by simp only at h7; omega, by simp only at h8; omega⟩
        · -- fewer are left
          have := unl_set (L := fun k => listed.getD k false) (M := fun k => (listed.setIfInBounds i true).getD k false) (q := i) hLi (by rw [hset]; simp) (fun k hk => by rw [hset]; simp [hk]) hi'
          omega
  refine main ops.size (Array.replicate ops.size false) r0 ow0 s.h T a0 w0 (by simp) ?_ ?_ rfl ?_ ?_ hs0 ha0 hd0 (Env.Le.refl _) (New.refl _ _ _) (Frame.refl _ _) (fun b n e => .inl ⟨b, e⟩) ?_
  · intro j hj hL; simp [Array.getD_eq_getD_getElem?, hj] at hL
  · intro t p hp hx
    have := hbetT t p 0 (Nat.zero_le _) hp (fun j ft _ hjp hft hxw => by
      have hL := (hx j ft hft hxw).2 hjp
      have hj : j < ops.size := by rw [← fF]; exact (List.getElem?_eq_some_iff.1 hft).1
      simp [Array.getD_eq_getD_getElem?, hj] at hL)
    rw [this, f0]
  · intro n p hp hx
    have := hbetN n p 0 (Nat.zero_le _) hp (fun j ft _ hjp hft hxw => by
      have hL := (hx j ft hft hxw).2 hjp
      have hj : j < ops.size := by rw [← fF]; exact (List.getElem?_eq_some_iff.1 hft).1
      simp [Array.getD_eq_getD_getElem?, hj] at hL)
    rw [this, f0]
  · intro m hm; exact .inl hm
  · have : ∀ k (L : Nat → Bool), unl L k ≤ k := by
      intro k L
      induction k with
      | zero => exact Nat.le_refl _
      | succ k ih => simp only [unl]; split <;> omega
    exact this _ _

end
end Go.Sx
