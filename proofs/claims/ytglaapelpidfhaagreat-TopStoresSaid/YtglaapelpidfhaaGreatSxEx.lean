/- Symbolic executor, part 14: code and calls. No condition. -/
import Derived.Test.YtglaapelpidfhaaGreatSxOp9
import Derived.Scope
namespace Go.Sx

inductive Task where
  | call (f : FuncId) (args : List Value)
  | code (c : Code) (T : List Value)
  | inLoop (c : Code) (T : List Value)
  | inScope (c body : Code) (T : List Value)
inductive ARes where
  | val (v : Value)
  | out (e : SExit) (T : List Value)
abbrev Rec := Task → X ARes

def putT (T : List Value) (dst : Option Tmp) (v : Value) : List Value := match dst with
  | some d => T.set d v
  | none => T
def callX (rec : Rec) (f : FuncId) (args : List Value) : X Value := X.bind (rec (.call f args)) fun r => match r with
  | .val v => X.pure v
  | _ => X.fail
def runOp (P : Program) (rec : Rec) (T : List Value) (o : Oper) : X Value := X.bind (exOp P T o) fun r => match r with
  | .val v => X.pure v
  | .unit => X.pure undef
  | .call f args => callX rec f args
/-- Is the operation wanted? -/
def wantX (ops : List Oper) (T : List Value) (o : Oper) : X Bool := match o.guard with
  | none => X.pure true
  | some (j, want) => match (ops[j]?).bind (·.dst) with
    | none => X.pure false
    | some d => match T.getD d undef with
      | .bool b => X.bind (ask b) fun t => X.pure (t == want)
      | .tuple _ => X.pure false
      | _ => X.fail
def stepV (P : Program) (rec : Rec) (ops : List Oper) (T : List Value) (o : Oper) : X Value := X.bind (wantX ops T o) fun b => match b with
  | true => runOp P rec T o
  | false => X.pure undef
def stepOp (P : Program) (rec : Rec) (ops : List Oper) (T : List Value) (o : Oper) : X (List Value) := X.bind (stepV P rec ops T o) fun v => X.pure (putT T o.dst v)
def seqOps (P : Program) (rec : Rec) (ops : List Oper) : List Oper → List Value → X (List Value)
  | [], T => X.pure T
  | o :: l, T => X.bind (stepOp P rec ops T o) fun T' => seqOps P rec ops l T'

/-! A region that draws its order: what each operation reads and writes. -/
structure Foot where
  tr : List Nat
  tw : List Nat
  R : List Nat
  W : List Nat
def scopeX {α : Type} (x : X α) : X (α × List Nat × List Nat) := fun d s => match x d { s with R := [], W := [] } with
  | some (a, s') => some ((a, s'.R, s'.W), { s' with R := s'.R ++ s.R, W := s'.W ++ s.W })
  | none => none
def tmpsOf : List Operand → List Nat
  | [] => []
  | .tmp t :: l => t :: tmpsOf l
  | _ :: l => tmpsOf l
def looks (ops : List Oper) (o : Oper) : List Nat := (match o.guard with
  | some (g, _) => ((ops[g]?).bind (·.dst)).toList
  | none => []) ++ tmpsOf o.op.operands.toList
def parOps (P : Program) (rec : Rec) (ops : List Oper) : List Oper → List Value → X (List Value × List Foot)
  | [], T => X.pure (T, [])
  | o :: l, T => X.bind (scopeX (stepV P rec ops T o)) fun q => X.bind (parOps P rec ops l (putT T o.dst q.1)) fun z => X.pure (z.1, ⟨looks ops o, o.dst.toList, q.2.1, q.2.2⟩ :: z.2)
def hasN (n : Nat) : List Nat → Bool
  | [] => false
  | m :: l => match Nat.beq m n with
    | true => true
    | false => hasN n l
def disj : List Nat → List Nat → Bool
  | [], _ => true
  | n :: l, m => match hasN n m with
    | true => false
    | false => disj l m
def indep (x y : Foot) : Bool := disj x.tw y.tr && (disj x.tw y.tw && (disj x.tr y.tw && (disj x.W y.R && (disj x.W y.W && disj x.R y.W))))
/-- Which operations stand ahead of each by the edges that always bind, as bits. -/
def ahead (masks : List Nat) : List Edge → Nat → Nat
  | [], m => m
  | e :: l, m => match Region.binds .any e with
    | true => ahead masks l (m ||| (2 ^ e.on ||| masks.getD e.on 0))
    | false => ahead masks l m
def masksOf : List Oper → List Nat → List Nat
  | [], ms => ms
  | o :: l, ms => masksOf l (ms ++ [ahead ms o.after.toList 0])
def checkWith (j : Nat) (mask : Nat) (y : Foot) : Nat → List Foot → Bool
  | _, [] => true
  | i, x :: l => (Nat.testBit mask i || indep x y) && checkWith j mask y (i + 1) l
def checkAll (masks : List Nat) (all : List Foot) : Nat → List Foot → Bool
  | _, [] => true
  | j, y :: l => checkWith j (masks.getD j 0) y 0 (all.take j) && checkAll masks all (j + 1) l
def edgesOk : Nat → List Oper → Bool
  | _, [] => true
  | i, o :: l => (o.after.toList.all fun e => !Region.binds .any e || Nat.blt e.on i) && edgesOk (i + 1) l
def parX (P : Program) (rec : Rec) (ops : List Oper) (T : List Value) : X (List Value) := X.bind (parOps P rec ops ops T) fun z => X.bind (need (edgesOk 0 ops && checkAll (masksOf ops []) z.2 0 z.2)) fun _ => X.pure z.1

def resX (P : Program) (T : List Value) : List ResultVar → X (List Value)
  | [] => X.pure []
  | .tmp t :: l => X.bind (resX P T l) fun vs => X.pure (T.getD t undef :: vs)
  | .cell a t :: l => X.bind (exLoad P t (T.getD a undef)) fun v => X.bind (resX P T l) fun vs => X.pure (v :: vs)
def oneV : List Value → Value
  | [v] => v
  | vs => .tuple ⟨vs⟩

def stepT (P : Program) (ro rec : Rec) : Task → X ARes
  | .call f args => match P.funcs[f]? with
    | some fn => match fn.body with
      | some c => X.bind (rec (.code c (args ++ List.replicate (fn.ntmps - args.length) undef))) fun r => match r with
        | .out .normal T => X.bind (resX P T fn.results.toList) fun vs => X.pure (.val (oneV vs))
        | .out .ret T => X.bind (resX P T fn.results.toList) fun vs => X.pure (.val (oneV vs))
        | _ => X.fail
      | none => X.fail
    | none => X.fail
  | .inLoop c T => X.bind (rec (.code c T)) fun r => match r with
    | .out .normal T' => rec (.inLoop c T')
    | r => X.pure r
  | .inScope c body T => X.bind (rec (.code c T)) fun r => match r with
    | .out (.goto l) T' => match findLabel body l with
      | some rest => rec (.inScope rest body T')
      | none => X.pure (.out (.goto l) T')
    | r => X.pure r
  | .code c T => match c with
    | .skip => X.pure (.out .normal T)
    | .label _ => X.pure (.out .normal T)
    | .region _ ops false => X.bind (seqOps P ro ops.toList ops.toList T) fun T' => X.pure (.out .normal T')
    | .region _ ops true => X.bind (parX P ro ops.toList T) fun T' => X.pure (.out .normal T')
    | .seq a b => X.bind (rec (.code a T)) fun r => match r with
      | .out .normal T' => rec (.code b T')
      | r => X.pure r
    | .cond c a b => X.bind (opt (evO T c)) fun v => match v with
      | .bool b0 => X.bind (ask b0) fun t => match t with
        | true => rec (.code a T)
        | false => rec (.code b T)
      | _ => X.fail
    | .block id a => X.bind (rec (.code a T)) fun r => match r with
      | .out (.exit i) T' => match Nat.beq i id with
        | true => X.pure (.out .normal T')
        | false => X.pure (.out (.exit i) T')
      | r => X.pure r
    | .loop a => rec (.inLoop a T)
    | .exit id => X.pure (.out (.exit id) T)
    | .scope a => rec (.inScope a a T)
    | .goto l => X.pure (.out (.goto l) T)
    | .ret => X.pure (.out .ret T)
    | .rangeFunc _ _ _ _ => X.fail
    | .refuse _ => X.fail

/-- What a task comes to by a contract, where there is one. -/
abbrev Contracts := Task → Option (X ARes)
def noC : Contracts := fun _ => none
def ex (P : Program) (C : Contracts) : Nat → Rec
  | 0 => fun _ => X.fail
  | n + 1 => fun t => match C t with
    | some x => x
    | none => stepT P (ex P C n) (ex P C n) t

/-! Local. -/
def LocalR (rec : Rec) : Prop := ∀ t, Local (rec t)
section
variable {P : Program} {rec : Rec} (hr : LocalR rec)
include hr
theorem Local.callX (f : FuncId) (args : List Value) : Local (callX rec f args) := by
  unfold Sx.callX
  refine Local.bind (hr _) fun r => ?_
  split
  · exact Local.pure _
  · exact Local.fail
theorem Local.runOp (T : List Value) (o : Oper) : Local (runOp P rec T o) := by
  unfold Sx.runOp
  refine Local.bind (Local.exOp _ _ _) fun r => ?_
  split
  · exact Local.pure _
  · exact Local.pure _
  · exact Local.callX hr _ _
omit hr in
theorem Local.wantX (ops : List Oper) (T : List Value) (o : Oper) : Local (wantX ops T o) := by
  unfold Sx.wantX
  split
  · exact Local.pure _
  · split
    · exact Local.pure _
    · split
      · exact Local.bind (Local.ask _) fun _ => Local.pure _
      · exact Local.pure _
      · exact Local.fail
theorem Local.stepV (ops : List Oper) (T : List Value) (o : Oper) : Local (stepV P rec ops T o) := by
  unfold Sx.stepV
  refine Local.bind (Local.wantX _ _ _) fun b => ?_
  split
  · exact Local.runOp hr _ _
  · exact Local.pure _
theorem Local.stepOp (ops : List Oper) (T : List Value) (o : Oper) : Local (stepOp P rec ops T o) := Local.bind (Local.stepV hr _ _ _) fun _ => Local.pure _
theorem Local.seqOps (ops : List Oper) : ∀ (l : List Oper) (T : List Value), Local (seqOps P rec ops l T)
  | [], _ => Local.pure _
  | o :: l, T => Local.bind (Local.stepOp hr ops T o) fun _ => Local.seqOps ops l _
omit hr in
theorem Local.scopeX {α : Type} {x : X α} (hx : Local x) : Local (scopeX x) := by
  intro d s a s' h
  unfold Sx.scopeX at h
  cases e : x d { s with R := [], W := [] } with
  | none => simp [e] at h
  | some p =>
    obtain ⟨b, s1⟩ := p
    simp only [e, Option.some.injEq, Prod.mk.injEq] at h
    obtain ⟨rfl, rfl⟩ := h
    obtain ⟨c1, R, W, V, hR, hW, hV, k1, l1⟩ := hx d _ b s1 e
    simp only [List.append_nil] at hR hW hV
    refine ⟨c1, R, W, V, by simp [hR], by simp [hW], hV, k1, fun s2 hc hk hag => ?_⟩
    obtain ⟨h2, e2, g1, g2⟩ := l1 { s2 with R := [], W := [] } hc hk hag
    refine ⟨h2, ?_, g1, g2⟩
    unfold Sx.scopeX
    rw [e2]
    simp [hR, hW]
theorem Local.parOps (ops : List Oper) : ∀ (l : List Oper) (T : List Value), Local (parOps P rec ops l T)
  | [], _ => Local.pure _
  | o :: l, T => Local.bind (Local.scopeX (Local.stepV hr ops T o)) fun _ => Local.bind (Local.parOps ops l _) fun _ => Local.pure _
theorem Local.parX (ops : List Oper) (T : List Value) : Local (parX P rec ops T) :=
  Local.bind (Local.parOps hr ops _ _) fun _ => Local.bind (Local.need _) fun _ => Local.pure _
omit hr in
theorem Local.resX (T : List Value) : ∀ (l : List ResultVar), Local (resX P T l)
  | [] => Local.pure _
  | .tmp t :: l => Local.bind (Local.resX T l) fun _ => Local.pure _
  | .cell a t :: l => Local.bind (Local.exLoad _ _ _) fun _ => Local.bind (Local.resX T l) fun _ => Local.pure _
theorem Local.stepT {ro : Rec} (hro : LocalR ro) (t : Task) : Local (stepT P ro rec t) := by
  cases t with
  | call f args =>
    simp only [Sx.stepT]
    cases P.funcs[f]? with
    | none => exact Local.fail
    | some fn =>
      simp only
      cases fn.body with
      | none => exact Local.fail
      | some c =>
        refine Local.bind (hr _) fun r => ?_
        split
        · exact Local.bind (Local.resX _ _) fun _ => Local.pure _
        · exact Local.bind (Local.resX _ _) fun _ => Local.pure _
        · exact Local.fail
  | inLoop c T =>
    refine Local.bind (hr _) fun r => ?_
    split
    · exact hr _
    · exact Local.pure _
  | inScope c b T =>
    refine Local.bind (hr _) fun r => ?_
    split
    · split
      · exact hr _
      · exact Local.pure _
    · exact Local.pure _
  | code c T =>
    unfold Sx.stepT
    cases c with
    | skip => exact Local.pure _
    | label _ => exact Local.pure _
    | region id ops draw =>
      cases draw
      · exact Local.bind (Local.seqOps hro _ _ _) fun _ => Local.pure _
      · exact Local.bind (Local.parX hro _ _) fun _ => Local.pure _
    | seq a b =>
      refine Local.bind (hr _) fun r => ?_
      split
      · exact hr _
      · exact Local.pure _
    | cond c a b =>
      refine Local.bind (Local.opt _) fun v => ?_
      split
      · refine Local.bind (Local.ask _) fun t => ?_
        split
        · exact hr _
        · exact hr _
      · exact Local.fail
    | block id a =>
      refine Local.bind (hr _) fun r => ?_
      split
      · split
        · exact Local.pure _
        · exact Local.pure _
      · exact Local.pure _
    | loop a => exact hr _
    | exit id => exact Local.pure _
    | scope a => exact hr _
    | goto l => exact Local.pure _
    | ret => exact Local.pure _
    | rangeFunc _ _ _ _ => exact Local.fail
    | refuse _ => exact Local.fail
omit hr in
theorem Local.ex {C : Contracts} (hC : ∀ t x, C t = some x → Local x) : ∀ (n : Nat), LocalR (ex P C n)
  | 0 => fun _ => Local.fail
  | n + 1 => fun t => by
    unfold Sx.ex
    cases e : C t with
    | some x => exact hC t x e
    | none => exact Local.stepT (Local.ex hC n) (Local.ex hC n) t
end

end Go.Sx
