/- Symbolic executor, part 12: the small operations, and all operations together. No condition. -/
import Derived.Test.YtglaapelpidfhaaGreatSxOp7
namespace Go.Sx

/-! Operands. -/
def evO (T : List Value) : Operand → Option Value
  | .tmp t => some (T.getD t undef)
  | .const v => match plain v with
    | true => some v
    | false => none
  | .global _ => none
  | .func f => some (.func (.func f) ⟨[]⟩ ⟨[]⟩)
def evL (T : List Value) : List Operand → Option (List Value)
  | [] => some []
  | x :: l => match evO T x with
    | some v => match evL T l with
      | some vs => some (v :: vs)
      | none => none
    | none => none
def evP (T : List Value) : List (Nat × Operand) → Option (List (Nat × Value))
  | [] => some []
  | (i, x) :: l => match evO T x with
    | some v => match evP T l with
      | some vs => some ((i, v) :: vs)
      | none => none
    | none => none
def evQ (T : List Value) : Option Operand → Option (Option Value)
  | none => some none
  | some x => match evO T x with
    | some v => some (some v)
    | none => none

section
variable {r : Env} {T : List Value} {a : Act}
theorem tmp_rel (h : RelL r T a.tmps.toList) (t : Nat) : Rel r (T.getD t undef) (a.tmps.getD t undef) := by
  have hl := h.length
  rw [List.getD_eq_getElem?_getD]
  cases e : T[t]? with
  | some x =>
    obtain ⟨y, e2, hy⟩ := h.get t x e
    have : a.tmps.getD t undef = y := by simp [Array.getD_eq_getD_getElem?, ← Array.getElem?_toList, e2]
    rw [this]; exact hy
  | none =>
    have h1 : T.length ≤ t := by simpa using e
    have h2 : a.tmps[t]? = none := by simp; rw [← Array.length_toList, ← hl]; exact h1
    have : a.tmps.getD t undef = undef := by simp [Array.getD_eq_getD_getElem?, h2]
    rw [this]; exact RelL.mkTuple .nil
theorem evO_rel (h : RelL r T a.tmps.toList) : ∀ {x : Operand} {v : Value}, evO T x = some v → Rel r v (a.eval x)
  | .tmp t, v, e => by simp [evO] at e; subst e; have := tmp_rel h t; simpa [Act.eval] using this
  | .const c, v, e => by
    simp only [evO] at e
    cases hp : plain c with
    | false => simp [hp] at e
    | true => simp [hp] at e; subst e; exact plain_rel hp
  | .global _, v, e => by simp [evO] at e
  | .func f, v, e => by simp [evO] at e; subst e; exact RelL.mkFunc .nil .nil
theorem evL_rel (h : RelL r T a.tmps.toList) : ∀ {l : List Operand} {vs : List Value}, evL T l = some vs → RelL r vs (l.map a.eval)
  | [], vs, e => by simp [evL] at e; subst e; exact .nil
  | x :: l, vs, e => by
    simp only [evL] at e
    cases e1 : evO T x with
    | none => simp [e1] at e
    | some v =>
      simp only [e1] at e
      cases e2 : evL T l with
      | none => simp [e2] at e
      | some us => simp only [e2] at e; cases e; exact .cons (evO_rel h e1) (evL_rel h e2)
theorem evP_rel (h : RelL r T a.tmps.toList) : ∀ {l : List (Nat × Operand)} {vs : List (Nat × Value)}, evP T l = some vs → RelP r vs (l.map fun (i, x) => (i, a.eval x))
  | [], vs, e => by simp [evP] at e; subst e; exact .nil
  | (i, x) :: l, vs, e => by
    simp only [evP] at e
    cases e1 : evO T x with
    | none => simp [e1] at e
    | some v =>
      simp only [e1] at e
      cases e2 : evP T l with
      | none => simp [e2] at e
      | some us => simp only [e2] at e; cases e; exact .cons (evO_rel h e1) (evP_rel h e2)
theorem evQ_rel (h : RelL r T a.tmps.toList) {o : Option Operand} {v : Option Value} (e : evQ T o = some v) : RelO r v (o.map a.eval) := by
  cases o with
  | none => simp [evQ] at e; subst e; exact .none
  | some x =>
    simp only [evQ] at e
    cases e1 : evO T x with
    | none => simp [e1] at e
    | some u => simp only [e1] at e; cases e; exact .some (evO_rel h e1)
end

def exNil : Value → Option Value
  | .pointer (some a) => some (.pointer (some a))
  | .func (.func f) a c => some (.func (.func f) a c)
  | .iface t v => some (.iface t v)
  | _ => none
def exUn (op : UnOp) : Value → Option Value
  | .bool b => match op with
    | .not => some (.bool !b)
    | _ => none
  | .int k n => match op with
    | .neg => some (.int k (k.wrap (0 - n)))
    | _ => none
  | _ => none
def exTup (i : Nat) : Value → Option Value
  | .tuple vs => vs.toList[i]?
  | _ => none
def exMkI (P : Program) (t : TypeId) (x : Value) : Option Value := match P.underlying t with
  | some (.interface _) => none
  | some _ => some (.iface t x)
  | none => none
def exMin : Value → Value → Option Value
  | .int k x, .int _ y => some (.int k (if y < x then y else x))
  | _, _ => none
def exBinary (P : Program) (op : BinOp) (t : TypeId) (o2 : Operand) (x y : Value) : Option Value := match exBin op x y with
  | some v => some v
  | none => match op with
    | .eql => (exEq P t o2 x y).map .bool
    | .neq => (exEq P t o2 x y).map fun b => .bool !b
    | _ => none
def fnOk (P : Program) (f : FuncId) : Bool := match P.funcs[f]? with
  | some fn => fn.body.isSome && !(fn.name == "runtime.NumGoroutine")
  | none => false
def val (x : X Value) : X OpRes := X.bind x fun v => X.pure (.val v)
def unit (x : X Unit) : X OpRes := X.bind x fun _ => X.pure .unit
def nothing (x : X Unit) : X OpRes := X.bind x fun _ => X.pure (.val (.tuple ⟨[]⟩))

def exBuiltin (P : Program) (b : Builtin) (ts : List TypeId) (as : List Value) : X OpRes := match b, ts, as with
  | .len, [t], [x] => val (exLen P t x)
  | .append, [t, tx], [s, x] => val (exAppend P t tx s x)
  | .min, _, [x, y] => val (opt (exMin x y))
  | .delete, [t, _], [m, k] => nothing (exDelete P t m k)
  | _, _, _ => X.fail

def exOp (P : Program) (T : List Value) (o : Oper) : X OpRes := match o.op with
  | .move x => val (opt (evO T x))
  | .assign x => val (opt (evO T x))
  | .pick c x y => X.bind (opt (evO T c)) fun c => match c with
    | .bool b => X.bind (ask b) fun t => match t with
      | true => val (opt (evO T x))
      | false => val (opt (evO T y))
    | _ => X.fail
  | .alloc t => val (X.bind (zeroV P t) fun z => exBox P t z)
  | .box t x => X.bind (opt (evO T x)) fun v => val (exBox P t v)
  | .build t ps => X.bind (opt (evP T ps.toList)) fun l => val (exBuild P t l)
  | .buildSlice t n ps => X.bind (opt (evP T ps.toList)) fun l => val (exBuildSlice P t n l)
  | .load t x => X.bind (opt (evO T x)) fun a => val (exLoad P t a)
  | .store t x y => X.bind (opt (evO T x)) fun a => X.bind (opt (evO T y)) fun v => unit (exStore P t a v)
  | .nilCheck x => X.bind (opt (evO T x)) fun v => val (opt (exNil v))
  | .binOp op t x y _ => X.bind (opt (evO T x)) fun a => X.bind (opt (evO T y)) fun b => val (opt (exBinary P op t y a b))
  | .unOp op _ x => X.bind (opt (evO T x)) fun v => val (opt (exUn op v))
  | .makeInterface t x => X.bind (opt (evO T x)) fun v => val (opt (exMkI P t v))
  | .makeFunc fn f c => X.bind (opt (evL T f.toList)) fun f => X.bind (opt (evL T c.toList)) fun c => match fn with
    | .func g => X.pure (.val (.func (.func g) ⟨f⟩ ⟨c⟩))
    | _ => X.fail
  | .makeMap _ none => val (X.bind (X.new (.map [])) fun n => X.pure (.map (some n)))
  | .makeSlice t l c => X.bind (opt (evO T l)) fun l => X.bind (opt (evO T c)) fun c => val (exMakeSlice P t l c)
  | .slice t x lo hi mx => X.bind (opt (evO T x)) fun v => X.bind (opt (evQ T lo)) fun lo => X.bind (opt (evQ T hi)) fun hi => X.bind (opt (evQ T mx)) fun mx => val (exSlice P t v lo hi mx)
  | .fieldAddr t x f => X.bind (opt (evO T x)) fun v => val (exFieldAddr P t v f)
  | .field t x f => X.bind (opt (evO T x)) fun v => val (exField P t v f)
  | .indexAddr t x i => X.bind (opt (evO T x)) fun v => X.bind (opt (evO T i)) fun i => val (exIndexAddr P t v i)
  | .index t x i => X.bind (opt (evO T x)) fun v => X.bind (opt (evO T i)) fun i => val (exIndex P t v i)
  | .lookup t x i ok => X.bind (opt (evO T x)) fun v => X.bind (opt (evO T i)) fun i => val (exLookup P t v i ok)
  | .mapUpdate t m k v => X.bind (opt (evO T m)) fun m => X.bind (opt (evO T k)) fun k => X.bind (opt (evO T v)) fun v => unit (exMapUpdate P t m k v)
  | .extract x i => X.bind (opt (evO T x)) fun v => val (opt (exTup i v))
  | .call c => X.bind (opt (evL T c.args.toList)) fun as => match c.callee with
    | .value f => X.bind (opt (evO T f)) fun fv => match fv with
      | .func (.func g) first cap => X.bind (need (fnOk P g)) fun _ => X.pure (.call g (first.toList ++ as ++ cap.toList))
      | _ => X.fail
    | .builtin b => exBuiltin P b c.argTypes.toList as
    | .invoke _ _ => X.fail
  | _ => X.fail

theorem Local.exBuild (P : Program) (t : TypeId) (ps : List (Nat × Value)) : Local (exBuild P t ps) := by
  unfold Sx.exBuild
  repeat' (first | exact Local.pure _ | exact Local.fail | exact Local.rd _ | exact Local.wr _ _ | exact Local.drop _ | exact Local.new _ | exact Local.opt _ | exact Local.need _ | exact Local.ask _ | exact Local.chk _ | exact Local.addrOf _ | exact Local.szOf _ _ | exact Local.aggT _ _ | exact Local.zeroV _ _ | exact Local.readCells _ _ _ | refine Local.bind ?_ fun _ => ?_ | split)

theorem Local.exBuildSlice (P : Program) (t : TypeId) (n : Nat) (ps : List (Nat × Value)) : Local (exBuildSlice P t n ps) := by
  unfold Sx.exBuildSlice
  repeat' (first | exact Local.pure _ | exact Local.fail | exact Local.rd _ | exact Local.wr _ _ | exact Local.drop _ | exact Local.new _ | exact Local.opt _ | exact Local.need _ | exact Local.ask _ | exact Local.chk _ | exact Local.addrOf _ | exact Local.szOf _ _ | exact Local.aggT _ _ | exact Local.zeroV _ _ | exact Local.readCells _ _ _ | refine Local.bind ?_ fun _ => ?_ | split | unfold Sx.exRow)

theorem Local.exFieldAddr (P : Program) (t : TypeId) (a : Value) (i : Nat) : Local (exFieldAddr P t a i) := by
  unfold Sx.exFieldAddr
  repeat' (first | exact Local.pure _ | exact Local.fail | exact Local.rd _ | exact Local.wr _ _ | exact Local.drop _ | exact Local.new _ | exact Local.opt _ | exact Local.need _ | exact Local.ask _ | exact Local.chk _ | exact Local.addrOf _ | exact Local.placeOf _ | exact Local.szOf _ _ | exact Local.aggT _ _ | exact Local.zeroV _ _ | exact Local.readCells _ _ _ | refine Local.bind ?_ fun _ => ?_ | split)

theorem Local.exField (P : Program) (t : TypeId) (a : Value) (i : Nat) : Local (exField P t a i) := by
  unfold Sx.exField
  repeat' (first | exact Local.pure _ | exact Local.fail | exact Local.rd _ | exact Local.wr _ _ | exact Local.drop _ | exact Local.new _ | exact Local.opt _ | exact Local.need _ | exact Local.ask _ | exact Local.chk _ | exact Local.addrOf _ | exact Local.szOf _ _ | exact Local.aggT _ _ | exact Local.zeroV _ _ | exact Local.readCells _ _ _ | refine Local.bind ?_ fun _ => ?_ | split)

theorem Local.exIndexAddr (P : Program) (t : TypeId) (a b : Value) : Local (exIndexAddr P t a b) := by
  unfold Sx.exIndexAddr
  repeat' (first | exact Local.pure _ | exact Local.fail | exact Local.rd _ | exact Local.wr _ _ | exact Local.drop _ | exact Local.new _ | exact Local.opt _ | exact Local.need _ | exact Local.ask _ | exact Local.chk _ | exact Local.addrOf _ | exact Local.szOf _ _ | exact Local.aggT _ _ | exact Local.zeroV _ _ | exact Local.readCells _ _ _ | refine Local.bind ?_ fun _ => ?_ | split)

theorem Local.exIndex (P : Program) (t : TypeId) (a b : Value) : Local (exIndex P t a b) := by
  unfold Sx.exIndex
  repeat' (first | exact Local.pure _ | exact Local.fail | exact Local.rd _ | exact Local.wr _ _ | exact Local.drop _ | exact Local.new _ | exact Local.opt _ | exact Local.need _ | exact Local.ask _ | exact Local.chk _ | exact Local.addrOf _ | exact Local.szOf _ _ | exact Local.aggT _ _ | exact Local.zeroV _ _ | exact Local.readCells _ _ _ | refine Local.bind ?_ fun _ => ?_ | split)

theorem Local.exLen (P : Program) (t : TypeId) (a : Value) : Local (exLen P t a) := by
  unfold Sx.exLen
  repeat' (first | exact Local.pure _ | exact Local.fail | exact Local.rd _ | exact Local.wr _ _ | exact Local.drop _ | exact Local.new _ | exact Local.opt _ | exact Local.need _ | exact Local.ask _ | exact Local.chk _ | exact Local.addrOf _ | exact Local.szOf _ _ | exact Local.aggT _ _ | exact Local.zeroV _ _ | exact Local.readCells _ _ _ | refine Local.bind ?_ fun _ => ?_ | split)

theorem Local.exMakeSlice (P : Program) (t : TypeId) (a b : Value) : Local (exMakeSlice P t a b) := by
  unfold Sx.exMakeSlice
  repeat' (first | exact Local.pure _ | exact Local.fail | exact Local.rd _ | exact Local.wr _ _ | exact Local.drop _ | exact Local.new _ | exact Local.opt _ | exact Local.need _ | exact Local.ask _ | exact Local.chk _ | exact Local.addrOf _ | exact Local.szOf _ _ | exact Local.aggT _ _ | exact Local.zeroV _ _ | exact Local.readCells _ _ _ | refine Local.bind ?_ fun _ => ?_ | split | unfold Sx.exRow | unfold Sx.zeroOk)

theorem Local.exSlice (P : Program) (t : TypeId) (x : Value) (lo hi mx : Option Value) : Local (exSlice P t x lo hi mx) := by
  unfold Sx.exSlice
  repeat' (first | exact Local.pure _ | exact Local.fail | exact Local.rd _ | exact Local.wr _ _ | exact Local.drop _ | exact Local.new _ | exact Local.opt _ | exact Local.need _ | exact Local.ask _ | exact Local.chk _ | exact Local.addrOf _ | exact Local.szOf _ _ | exact Local.aggT _ _ | exact Local.zeroV _ _ | exact Local.readCells _ _ _ | refine Local.bind ?_ fun _ => ?_ | split)

theorem Local.exAppendN (P : Program) (t tx : TypeId) (a b : Value) : Local (exAppendN P t tx a b) := by
  unfold Sx.exAppendN
  repeat' (first | exact Local.pure _ | exact Local.fail | exact Local.rd _ | exact Local.wr _ _ | exact Local.drop _ | exact Local.new _ | exact Local.opt _ | exact Local.need _ | exact Local.ask _ | exact Local.chk _ | exact Local.addrOf _ | exact Local.szOf _ _ | exact Local.aggT _ _ | exact Local.zeroV _ _ | exact Local.readCells _ _ _ | refine Local.bind ?_ fun _ => ?_ | split | unfold Sx.exAppend1 | unfold Sx.zeroOk | unfold Sx.rowType | unfold Sx.exRow)
theorem Local.exAppendB (P : Program) (t tx : TypeId) (n : Nat) (b : Value) : Local (exAppendB P t tx n b) := by
  unfold Sx.exAppendB
  repeat' (first | exact Local.pure _ | exact Local.fail | exact Local.rd _ | exact Local.wr _ _ | exact Local.drop _ | exact Local.new _ | exact Local.opt _ | exact Local.need _ | exact Local.ask _ | exact Local.chk _ | exact Local.addrOf _ | exact Local.szOf _ _ | exact Local.aggT _ _ | exact Local.zeroV _ _ | exact Local.readCells _ _ _ | refine Local.bind ?_ fun _ => ?_ | split | unfold Sx.exAppend1 | unfold Sx.zeroOk | unfold Sx.rowType | unfold Sx.exRow)
theorem Local.exAppend (P : Program) (t tx : TypeId) (a b : Value) : Local (exAppend P t tx a b) := by
  unfold Sx.exAppend
  split
  · exact Local.exAppendB _ _ _ _ _
  · exact Local.exAppendN _ _ _ _ _

theorem Local.findX (k : IntKind) (a : Int) : ∀ (es : List (Value × Value)) (i : Nat), Local (findX k a es i)
  | [], _ => Local.pure _
  | (kx, vx) :: es, i => by
    cases kx <;> unfold Sx.findX <;> try exact Local.fail
    split
    · refine Local.bind (Local.ask _) fun t => ?_
      cases t
      · exact Local.findX k a es (i + 1)
      · exact Local.pure _
    · exact Local.fail
theorem Local.exLookup (P : Program) (t : TypeId) (a b : Value) (ok : Bool) : Local (exLookup P t a b ok) := by
  unfold Sx.exLookup
  repeat' (first | exact Local.pure _ | exact Local.fail | exact Local.rd _ | exact Local.wr _ _ | exact Local.drop _ | exact Local.new _ | exact Local.opt _ | exact Local.need _ | exact Local.ask _ | exact Local.chk _ | exact Local.addrOf _ | exact Local.szOf _ _ | exact Local.aggT _ _ | exact Local.zeroV _ _ | exact Local.readCells _ _ _ | exact Local.findX _ _ _ _ | refine Local.bind ?_ fun _ => ?_ | split | unfold Sx.mapOf)

theorem Local.exMapUpdate (P : Program) (t : TypeId) (a b c : Value) : Local (exMapUpdate P t a b c) := by
  unfold Sx.exMapUpdate
  repeat' (first | exact Local.pure _ | exact Local.fail | exact Local.rd _ | exact Local.wr _ _ | exact Local.drop _ | exact Local.new _ | exact Local.opt _ | exact Local.need _ | exact Local.ask _ | exact Local.chk _ | exact Local.addrOf _ | exact Local.szOf _ _ | exact Local.aggT _ _ | exact Local.zeroV _ _ | exact Local.readCells _ _ _ | exact Local.findX _ _ _ _ | refine Local.bind ?_ fun _ => ?_ | split | unfold Sx.mapOf)

theorem Local.exDelete (P : Program) (t : TypeId) (a b : Value) : Local (exDelete P t a b) := by
  unfold Sx.exDelete
  repeat' (first | exact Local.pure _ | exact Local.fail | exact Local.rd _ | exact Local.wr _ _ | exact Local.drop _ | exact Local.new _ | exact Local.opt _ | exact Local.need _ | exact Local.ask _ | exact Local.chk _ | exact Local.addrOf _ | exact Local.szOf _ _ | exact Local.aggT _ _ | exact Local.zeroV _ _ | exact Local.readCells _ _ _ | exact Local.findX _ _ _ _ | refine Local.bind ?_ fun _ => ?_ | split | unfold Sx.mapOf)


theorem Local.exOp (P : Program) (T : List Value) (o : Oper) : Local (exOp P T o) := by
  unfold Sx.exOp Sx.val Sx.unit
  repeat' (first | exact Local.pure _ | exact Local.fail | exact Local.rd _ | exact Local.wr _ _ | exact Local.drop _ | exact Local.new _ | exact Local.opt _ | exact Local.need _ | exact Local.ask _ | exact Local.chk _ | exact Local.addrOf _ | exact Local.szOf _ _ | exact Local.aggT _ _ | exact Local.zeroV _ _ | exact Local.readCells _ _ _ | exact Local.exBox _ _ _ | exact Local.exLoad _ _ _ | exact Local.exStore _ _ _ _ | exact Local.exBuild _ _ _ | exact Local.exBuildSlice _ _ _ _ | exact Local.exFieldAddr _ _ _ _ | exact Local.exField _ _ _ _ | exact Local.exIndexAddr _ _ _ _ | exact Local.exIndex _ _ _ _ | exact Local.exLen _ _ _ | exact Local.exMakeSlice _ _ _ _ | exact Local.exSlice _ _ _ _ _ _ | exact Local.exAppend _ _ _ _ _ | exact Local.exLookup _ _ _ _ _ | exact Local.exMapUpdate _ _ _ _ _ | exact Local.exDelete _ _ _ _ | refine Local.bind ?_ fun _ => ?_ | split | unfold Sx.exBuiltin Sx.val Sx.nothing)

end Go.Sx
