/- Symbolic executor, part 1: the relation between symbolic values (whose pointers bear names) and values, and what a symbolic heap says of a world. No condition. -/
import Derived.Orders
namespace Go.Sx

/-- What the names mean: the block of a name, how many elements that block holds, and opaque values. -/
structure Env where
  blk : Nat → Option Nat
  cap : Nat → Nat
  val : Nat → Option Value

structure Env.Le (r r' : Env) : Prop where
  blk : ∀ n b, r.blk n = some b → r'.blk n = some b
  cap : ∀ n b, r.blk n = some b → r'.cap n = r.cap n
  val : ∀ i v, r.val i = some v → r'.val i = some v

theorem Env.Le.refl (r : Env) : r.Le r := ⟨fun _ _ h => h, fun _ _ _ => rfl, fun _ _ h => h⟩
theorem Env.Le.trans {a b c : Env} (h : a.Le b) (k : b.Le c) : a.Le c :=
  ⟨fun n x e => k.blk n x (h.blk n x e), fun n x e => (k.cap n x (h.blk n x e)).trans (h.cap n x e), fun i v e => k.val i v (h.val i v e)⟩

/-- A symbolic value (left) stands for a value (right). A slice's capacity, on the left, is a mark: 0 the whole block from its first cell on; 2 just its length; else not known. -/
inductive Rel (r : Env) : Value → Value → Prop
  | bool (b : Bool) : Rel r (.bool b) (.bool b)
  | int (k : IntKind) (n : Int) : Rel r (.int k n) (.int k n)
  | string (s : ByteArray) : Rel r (.string s) (.string s)
  | ptrNil : Rel r (.pointer none) (.pointer none)
  | ptr {n b off : Nat} (h : r.blk n = some b) : Rel r (.pointer (some ⟨n, off, none⟩)) (.pointer (some ⟨b, off, none⟩))
  | sliceNil {c : Nat} : Rel r (.slice none 0 c) (.slice none 0 0)
  | slice {n b off off' l m c : Nat} (h : r.blk n = some b) (ho : off' = off ∨ l = 0) (hl : l ≤ c) (h0 : m = 0 → off = 0 ∧ off' = 0 ∧ c = r.cap n) (h2 : m = 2 → c = l) :
      Rel r (.slice (some ⟨n, off, none⟩) l m) (.slice (some ⟨b, off', none⟩) l c)
  | litPtr {b off k : Nat} : Rel r (.pointer (some ⟨b, off, some k⟩)) (.pointer (some ⟨b, off, none⟩))
  | litSlice {b off l c k : Nat} {sp : Option Nat} (hl : l ≤ c) (hs : sp = none ∨ l = 0) : Rel r (.slice (some ⟨b, off, some k⟩) l c) (.slice (some ⟨b, off, sp⟩) l c)
  | mapNil : Rel r (.map none) (.map none)
  | map {n b : Nat} (h : r.blk n = some b) : Rel r (.map (some n)) (.map (some b))
  | func {fn : Fn} {f1 f2 c1 c2 : Array Value} (hf : f1.size = f2.size) (hc : c1.size = c2.size)
      (h1 : ∀ (i : Nat) (h : i < f1.size) (h' : i < f2.size), Rel r f1[i] f2[i]) (h2 : ∀ (i : Nat) (h : i < c1.size) (h' : i < c2.size), Rel r c1[i] c2[i]) :
      Rel r (.func fn f1 c1) (.func fn f2 c2)
  | nilFunc : Rel r .nilFunc .nilFunc
  | iface {t : TypeId} {v v' : Value} (h : Rel r v v') : Rel r (.iface t v) (.iface t v')
  | nilIface : Rel r .nilIface .nilIface
  | agg {xs ys : Array Value} (hs : xs.size = ys.size) (h : ∀ (i : Nat) (h : i < xs.size) (h' : i < ys.size), Rel r xs[i] ys[i]) : Rel r (.agg xs) (.agg ys)
  | tuple {xs ys : Array Value} (hs : xs.size = ys.size) (h : ∀ (i : Nat) (h : i < xs.size) (h' : i < ys.size), Rel r xs[i] ys[i]) : Rel r (.tuple xs) (.tuple ys)
  | opq {i : Nat} {v : Value} (h : r.val i = some v) : Rel r (.chan (some i)) v
  | any {v : Value} : Rel r (.chan none) v

theorem Rel.mono {r r' : Env} (hr : r.Le r') {v u : Value} (h : Rel r v u) : Rel r' v u := by
  induction h with
  | bool b => exact .bool b
  | int k n => exact .int k n
  | string s => exact .string s
  | ptrNil => exact .ptrNil
  | ptr h => exact .ptr (hr.blk _ _ h)
  | sliceNil => exact .sliceNil
  | slice h ho hl h0 h2 => exact .slice (hr.blk _ _ h) ho hl (fun e => ⟨(h0 e).1, (h0 e).2.1, (h0 e).2.2.trans (hr.cap _ _ h).symm⟩) h2
  | litPtr => exact .litPtr
  | litSlice hl hs => exact .litSlice hl hs
  | mapNil => exact .mapNil
  | map h => exact .map (hr.blk _ _ h)
  | func hf hc _ _ ih1 ih2 => exact .func hf hc ih1 ih2
  | nilFunc => exact .nilFunc
  | iface _ ih => exact .iface ih
  | nilIface => exact .nilIface
  | agg hs _ ih => exact .agg hs ih
  | tuple hs _ ih => exact .tuple hs ih
  | opq h => exact .opq (hr.val _ _ h)
  | any => exact .any

/-- Two rows of values, one by one. -/
inductive RelL (r : Env) : List Value → List Value → Prop
  | nil : RelL r [] []
  | cons {x y : Value} {xs ys : List Value} (h : Rel r x y) (t : RelL r xs ys) : RelL r (x :: xs) (y :: ys)

theorem RelL.mono {r r' : Env} (hr : r.Le r') {xs ys : List Value} (h : RelL r xs ys) : RelL r' xs ys := by
  induction h with
  | nil => exact .nil
  | cons h _ ih => exact .cons (h.mono hr) ih
theorem RelL.length {r : Env} {xs ys : List Value} (h : RelL r xs ys) : xs.length = ys.length := by
  induction h with
  | nil => rfl
  | cons _ _ ih => simp [ih]
theorem RelL.append {r : Env} {xs ys xs' ys' : List Value} (h : RelL r xs ys) (h' : RelL r xs' ys') : RelL r (xs ++ xs') (ys ++ ys') := by
  induction h with
  | nil => exact h'
  | cons h _ ih => exact .cons h ih
theorem RelL.drop {r : Env} {xs ys : List Value} (h : RelL r xs ys) : ∀ n, RelL r (xs.drop n) (ys.drop n) := by
  induction h with
  | nil => intro n; simp; exact .nil
  | cons h t ih => intro n; cases n with
    | zero => exact .cons h t
    | succ n => exact ih n
theorem RelL.take {r : Env} {xs ys : List Value} (h : RelL r xs ys) : ∀ n, RelL r (xs.take n) (ys.take n) := by
  induction h with
  | nil => intro n; simp; exact .nil
  | cons h t ih => intro n; cases n with
    | zero => exact .nil
    | succ n => exact .cons h (ih n)
theorem RelL.get {r : Env} {xs ys : List Value} (h : RelL r xs ys) : ∀ (i : Nat) (x : Value), xs[i]? = some x → ∃ y, ys[i]? = some y ∧ Rel r x y := by
  induction h with
  | nil => intro i x e; simp at e
  | cons h t ih => intro i x e; cases i with
    | zero => simp at e; subst e; exact ⟨_, by simp, h⟩
    | succ i => exact ih i x (by simpa using e)
theorem RelL.get' {r : Env} {xs ys : List Value} (h : RelL r xs ys) : ∀ (i : Nat) (y : Value), ys[i]? = some y → ∃ x, xs[i]? = some x ∧ Rel r x y := by
  induction h with
  | nil => intro i x e; simp at e
  | cons h t ih => intro i x e; cases i with
    | zero => simp at e; subst e; exact ⟨_, by simp, h⟩
    | succ i => exact ih i x (by simpa using e)
theorem RelL.set {r : Env} {xs ys : List Value} (h : RelL r xs ys) {x y : Value} (hx : Rel r x y) : ∀ i, RelL r (xs.set i x) (ys.set i y) := by
  induction h with
  | nil => intro i; exact .nil
  | cons h t ih => intro i; cases i with
    | zero => exact .cons hx t
    | succ i => exact .cons h (ih i)
theorem RelL.replicate {r : Env} {x y : Value} (h : Rel r x y) : ∀ n, RelL r (List.replicate n x) (List.replicate n y)
  | 0 => .nil
  | n + 1 => .cons h (RelL.replicate h n)
theorem RelL.of_get {r : Env} : ∀ {xs ys : List Value}, xs.length = ys.length → (∀ (i : Nat) (h : i < xs.length) (h' : i < ys.length), Rel r xs[i] ys[i]) → RelL r xs ys
  | [], [], _, _ => .nil
  | [], _ :: _, h, _ => by simp at h
  | _ :: _, [], h, _ => by simp at h
  | x :: xs, y :: ys, h, g => .cons (g 0 (by simp) (by simp)) (RelL.of_get (by simpa using h) fun i h1 h2 => g (i + 1) (by simpa using h1) (by simpa using h2))
theorem RelL.toArr {r : Env} {xs ys : List Value} (h : RelL r xs ys) : ∀ (i : Nat) (h : i < (⟨xs⟩ : Array Value).size) (h' : i < (⟨ys⟩ : Array Value).size), Rel r (⟨xs⟩ : Array Value)[i] (⟨ys⟩ : Array Value)[i] := by
  intro i h1 h2
  obtain ⟨y, e, hy⟩ := h.get i xs[i] (by simp)
  have : ys[i]'(by simpa using h2) = y := by simpa using (List.getElem?_eq_some_iff.1 e).2
  simpa [this] using hy
theorem RelL.mkAgg {r : Env} {xs ys : List Value} (h : RelL r xs ys) : Rel r (.agg ⟨xs⟩) (.agg ⟨ys⟩) := .agg (by simpa using h.length) h.toArr
theorem RelL.mkTuple {r : Env} {xs ys : List Value} (h : RelL r xs ys) : Rel r (.tuple ⟨xs⟩) (.tuple ⟨ys⟩) := .tuple (by simpa using h.length) h.toArr
theorem RelL.mkFunc {r : Env} {xs ys as bs : List Value} {fn : Fn} (h : RelL r xs ys) (h' : RelL r as bs) : Rel r (.func fn ⟨xs⟩ ⟨as⟩) (.func fn ⟨ys⟩ ⟨bs⟩) :=
  .func (by simpa using h.length) (by simpa using h'.length) h.toArr h'.toArr
theorem RelL.ofArr {r : Env} {xs ys : Array Value} (hs : xs.size = ys.size) (h : ∀ (i : Nat) (h : i < xs.size) (h' : i < ys.size), Rel r xs[i] ys[i]) : RelL r xs.toList ys.toList :=
  RelL.of_get (by simpa using hs) fun i h1 h2 => by simpa using h i (by simpa using h1) (by simpa using h2)

theorem Rel.agg_inv {r : Env} {xs : Array Value} {u : Value} (h : Rel r (.agg xs) u) : ∃ ys : Array Value, u = .agg ys ∧ RelL r xs.toList ys.toList := by
  cases h with | agg hs h => exact ⟨_, rfl, RelL.ofArr hs h⟩
theorem Rel.tuple_inv {r : Env} {xs : Array Value} {u : Value} (h : Rel r (.tuple xs) u) : ∃ ys : Array Value, u = .tuple ys ∧ RelL r xs.toList ys.toList := by
  cases h with | tuple hs h => exact ⟨_, rfl, RelL.ofArr hs h⟩
theorem Rel.func_inv {r : Env} {fn : Fn} {xs as : Array Value} {u : Value} (h : Rel r (.func fn xs as) u) :
    ∃ ys bs : Array Value, u = .func fn ys bs ∧ RelL r xs.toList ys.toList ∧ RelL r as.toList bs.toList := by
  cases h with | func hf hc h1 h2 => exact ⟨_, _, rfl, RelL.ofArr hf h1, RelL.ofArr hc h2⟩

/-- Values without names: they stand for themselves. -/
def plain : Value → Bool
  | .bool _ | .int _ _ | .string _ | .pointer none | .slice none 0 0 | .map none | .nilFunc | .nilIface | .tuple ⟨[]⟩ => true
  | .func _ ⟨[]⟩ ⟨[]⟩ => true
  | .iface _ (.int _ _) | .iface _ (.string _) => true
  | _ => false
theorem plain_rel {r : Env} {v : Value} (h : plain v = true) : Rel r v v := by
  unfold plain at h
  split at h <;> first
    | exact Rel.bool _ | exact Rel.int _ _ | exact Rel.string _ | exact Rel.ptrNil | exact Rel.sliceNil | exact Rel.mapNil | exact Rel.nilFunc | exact Rel.nilIface
    | exact RelL.mkTuple .nil | exact RelL.mkFunc .nil .nil | exact Rel.iface (.int _ _) | exact Rel.iface (.string _) | simp at h
def plainAll : List Value → Bool
  | [] => true
  | v :: l => plain v && plainAll l
theorem plainAll_rel {r : Env} : ∀ {l : List Value}, plainAll l = true → RelL r l l
  | [], _ => .nil
  | v :: l, h => by
    simp only [plainAll, Bool.and_eq_true] at h
    exact .cons (plain_rel h.1) (plainAll_rel h.2)

/-- The value's cells, as a list. -/
def cellsL : Value → List Value
  | .agg cs => cs.toList
  | v => [v]
theorem cells_eq (v : Value) : v.cells.toList = cellsL v := by
  cases v <;> rfl

def isOpq : Value → Bool
  | .chan _ => true
  | _ => false
theorem Rel.cells_rel {r : Env} {v u : Value} (h : Rel r v u) (ho : isOpq v = false) : RelL r (cellsL v) (cellsL u) := by
  cases h with
  | agg hs h => exact RelL.ofArr hs h
  | opq h => simp [isOpq] at ho
  | any => simp [isOpq] at ho
  | bool b => exact .cons (.bool b) .nil
  | int k n => exact .cons (.int k n) .nil
  | string s => exact .cons (.string s) .nil
  | ptrNil => exact .cons .ptrNil .nil
  | ptr h => exact .cons (.ptr h) .nil
  | litPtr => exact .cons .litPtr .nil
  | litSlice hl hs => exact .cons (.litSlice hl hs) .nil
  | sliceNil => exact .cons .sliceNil .nil
  | slice h hp hl h0 h2 => exact .cons (.slice h hp hl h0 h2) .nil
  | mapNil => exact .cons .mapNil .nil
  | map h => exact .cons (.map h) .nil
  | func hf hc h1 h2 => exact .cons (.func hf hc h1 h2) .nil
  | nilFunc => exact .cons .nilFunc .nil
  | iface h => exact .cons (.iface h) .nil
  | nilIface => exact .cons .nilIface .nil
  | tuple hs h => exact .cons (.tuple hs h) .nil

/-- A cell's value that may be stored: no struct, no tuple, nothing opaque. -/
def isCell : Value → Bool
  | .agg _ | .tuple _ | .chan _ => false
  | _ => true
theorem Rel.cell_ok {r : Env} {v u : Value} (h : Rel r v u) (hc : isCell v = true) : (∀ xs, u ≠ .agg xs) ∧ (∀ xs, u ≠ .tuple xs) := by
  cases h <;> first | (simp [isCell] at hc; done) | (refine ⟨fun _ => ?_, fun _ => ?_⟩ <;> simp)

end Go.Sx
