/- Symbolic executor, part 5: the operations that look at values alone, and struct values. No condition. -/
import Derived.Test.YtglaapelpidfhaaGreatSxMem
import Derived.Laws.StructEq
import Derived.Laws.Slices
import Derived.Laws.Strings
import Derived.IntWalk
namespace Go.Sx

/-! Strings, byte by byte. -/
def bytesEq : List UInt8 → List UInt8 → Bool
  | [], [] => true
  | a :: x, b :: y => if Nat.beq a.toNat b.toNat then bytesEq x y else false
  | _, _ => false
theorem bytesEq_iff : ∀ (x y : List UInt8), bytesEq x y = (x == y)
  | [], [] => rfl
  | [], _ :: _ => rfl
  | _ :: _, [] => rfl
  | a :: x, b :: y => by
    simp only [bytesEq, nbeq, bytesEq_iff x y]
    by_cases h : a = b
    · subst h; simp
    · have : ¬ a.toNat = b.toNat := fun e => h (UInt8.toNat_inj.1 e)
      simp [this, h]
def strEq (a b : ByteArray) : Bool := bytesEq a.data.toList b.data.toList
theorem strEq_eq (a b : ByteArray) : strEq a b = (a.toList == b.toList) := by rw [strEq, bytesEq_iff, ByteArray.toList_eq, ByteArray.toList_eq]
theorem strEq_beq (a b : ByteArray) : strEq a b = (a == b) := by rw [strEq_eq, beq_toListBytes]

/-! Binary operators. -/
def exBin (op : BinOp) (x y : Value) : Option Value := match x, y with
  | .int k a, .int k' b => if k = k' then (match op with
      | .add => some (.int k (k.wrap (a + b)))
      | .sub => some (.int k (k.wrap (a - b)))
      | .mul => some (.int k (k.wrap (a * b)))
      | .eql => some (.bool (a == b))
      | .neq => some (.bool (a != b))
      | .lss => some (.bool (decide (a < b)))
      | .leq => some (.bool (decide (a ≤ b)))
      | .gtr => some (.bool (decide (a > b)))
      | .geq => some (.bool (decide (a ≥ b)))
      | _ => none) else none
  | .string a, .string b => (match op with
      | .eql => some (.bool (strEq a b))
      | .neq => some (.bool (!strEq a b))
      | _ => none)
  | _, _ => none

theorem exBin_run {P : Program} {op : BinOp} {x y v u1 u2 : Value} {r : Env} {t : TypeId} {o1 o2 : Operand} (h : exBin op x y = some v) (h1 : Rel r x u1) (h2 : Rel r y u2) (w : World) :
    (do eqGuard op t o1 o2 u1 u2; binOp op t u1 u2 : Sem Value).run P w = .ok v w ∧ Rel r v v := by
  unfold exBin at h
  split at h
  · rename_i k a k' b
    cases h1; cases h2
    split at h
    · rename_i e; subst e
      split at h <;> simp at h <;> subst h <;> first
        | exact ⟨by simp [eqGuard_at_int, binOp, Op.intArith], .int _ _⟩
        | exact ⟨by simp [eqGuard_at_int, binOp, Op.intCmp], .bool _⟩
    · cases h
  · rename_i a b
    cases h1; cases h2
    split at h <;> simp at h <;> subst h
    · exact ⟨by simp [eqGuard_at_string, binOp, Op.stringOp, strEq_eq], .bool _⟩
    · exact ⟨by simp [eqGuard_at_string, binOp, Op.stringOp, strEq_eq], .bool _⟩
  · cases h

/-! Equality of what is neither an integer nor a string. -/
def eqLeafD : TypeDesc → Value → Value → Option Bool
  | .bool, .bool a, .bool b => some (a == b)
  | .int _, .int k a, .int k' b => if k = k' then some (a == b) else none
  | .string, .string a, .string b => some (strEq a b)
  | .pointer _, .pointer none, .pointer none => some true
  | .pointer _, .pointer (some _), .pointer none => some false
  | .pointer _, .pointer none, .pointer (some _) => some false
  | .interface _, .nilIface, .iface _ _ => some false
  | .interface _, .iface _ _, .nilIface => some false
  | .func _ _ _, .nilFunc, .nilFunc => some true
  | .func _ _ _, .nilFunc, .func _ _ _ => some false
  | .func _ _ _, .func _ _ _, .nilFunc => some false
  | .map _ _, .map none, .map none => some true
  | .map _ _, .map (some _), .map none => some false
  | _, _, _ => none
def eqLeaf (P : Program) (t : TypeId) (x y : Value) : Option Bool := match P.underlying t with
  | some D => eqLeafD D x y
  | none => none

section
variable {P : Program} {t : TypeId} (d : Nat) (w : World)
theorem lf_bool (h : P.underlying t = some .bool) (a b : Bool) : (Op.equalIn (d + 1) t (.bool a) (.bool b)).run P w = .ok (a == b) w := by simp [Op.equalIn, run_underlying h]
theorem lf_int {j k : IntKind} (h : P.underlying t = some (.int j)) (a b : Int) : (Op.equalIn (d + 1) t (.int k a) (.int k b)).run P w = .ok (a == b) w := by simp [Op.equalIn, run_underlying h]
theorem lf_str (h : P.underlying t = some .string) (a b : ByteArray) : (Op.equalIn (d + 1) t (.string a) (.string b)).run P w = .ok (strEq a b) w := by simp [Op.equalIn, run_underlying h, strEq_beq]
theorem lf_p00 {e : TypeId} (h : P.underlying t = some (.pointer e)) : (Op.equalIn (d + 1) t (.pointer none) (.pointer none)).run P w = .ok true w := by simp [Op.equalIn, run_underlying h]
theorem lf_p10 {e : TypeId} (h : P.underlying t = some (.pointer e)) (a : Addr) : (Op.equalIn (d + 1) t (.pointer (some a)) (.pointer none)).run P w = .ok false w := by simp [Op.equalIn, run_underlying h]
theorem lf_p01 {e : TypeId} (h : P.underlying t = some (.pointer e)) (a : Addr) : (Op.equalIn (d + 1) t (.pointer none) (.pointer (some a))).run P w = .ok false w := by simp [Op.equalIn, run_underlying h]
theorem lf_i01 {ms : Array (String × TypeId)} (h : P.underlying t = some (.interface ms)) (u : TypeId) (v : Value) : (Op.equalIn (d + 1) t .nilIface (.iface u v)).run P w = .ok false w := by simp [Op.equalIn, run_underlying h]
theorem lf_i10 {ms : Array (String × TypeId)} (h : P.underlying t = some (.interface ms)) (u : TypeId) (v : Value) : (Op.equalIn (d + 1) t (.iface u v) .nilIface).run P w = .ok false w := by simp [Op.equalIn, run_underlying h]
theorem lf_i00 {ms : Array (String × TypeId)} (h : P.underlying t = some (.interface ms)) : (Op.equalIn (d + 1) t .nilIface .nilIface).run P w = .ok true w := by simp [Op.equalIn, run_underlying h]
theorem lf_f00 {p q : Array TypeId} {v : Bool} (h : P.underlying t = some (.func p q v)) : (Op.equalIn (d + 1) t .nilFunc .nilFunc).run P w = .ok true w := by simp [Op.equalIn, run_underlying h]
theorem lf_f01 {p q : Array TypeId} {v : Bool} (h : P.underlying t = some (.func p q v)) (f : Fn) (a b : Array Value) : (Op.equalIn (d + 1) t .nilFunc (.func f a b)).run P w = .ok false w := by simp [Op.equalIn, run_underlying h]
theorem lf_f10 {p q : Array TypeId} {v : Bool} (h : P.underlying t = some (.func p q v)) (f : Fn) (a b : Array Value) : (Op.equalIn (d + 1) t (.func f a b) .nilFunc).run P w = .ok false w := by simp [Op.equalIn, run_underlying h]
theorem lf_m00 {p q : TypeId} (h : P.underlying t = some (.map p q)) : (Op.equalIn (d + 1) t (.map none) (.map none)).run P w = .ok true w := by simp [Op.equalIn, run_underlying h]
theorem lf_m10 {p q : TypeId} (h : P.underlying t = some (.map p q)) (a : Nat) : (Op.equalIn (d + 1) t (.map (some a)) (.map none)).run P w = .ok false w := by simp [Op.equalIn, run_underlying h]
end

theorem eqLeaf_run {P : Program} {t : TypeId} {x y u1 u2 : Value} {b : Bool} {r : Env} (h : eqLeaf P t x y = some b) (h1 : Rel r x u1) (h2 : Rel r y u2) (d : Nat) (w : World) :
    (Op.equalIn (d + 1) t u1 u2).run P w = .ok b w := by
  unfold eqLeaf at h
  cases eD : P.underlying t with
  | none => simp [eD] at h
  | some D =>
    simp only [eD] at h
    unfold eqLeafD at h
    split at h
    · cases h1; cases h2; cases h; exact lf_bool d w eD _ _
    · cases h1; cases h2
      split at h
      · rename_i e; subst e; cases h; exact lf_int d w eD _ _
      · cases h
    · cases h1; cases h2; cases h; exact lf_str d w eD _ _
    · cases h1; cases h2; cases h; exact lf_p00 d w eD
    · cases h1 <;> cases h2 <;> cases h <;> exact lf_p10 d w eD _
    · cases h1 <;> cases h2 <;> cases h <;> exact lf_p01 d w eD _
    · cases h1; cases h2; cases h; exact lf_i01 d w eD _ _
    · cases h1; cases h2; cases h; exact lf_i10 d w eD _ _
    · cases h1; cases h2; cases h; exact lf_f00 d w eD
    · cases h1; cases h2; cases h; exact lf_f01 d w eD _ _ _
    · cases h1; cases h2; cases h; exact lf_f10 d w eD _ _ _
    · cases h1; cases h2; cases h; exact lf_m00 d w eD
    · cases h1; cases h2; cases h; exact lf_m10 d w eD _
    · cases h

/-- The fields of a struct, one by one, each of one cell. -/
def eqFs (P : Program) : List Field → List Value → List Value → Option Bool
  | [], _, _ => some true
  | f :: fs, xs, ys => if f.name = "_" then none else match xs[f.offset]?, ys[f.offset]? with
    | some x, some y => (match P.underlying f.type with
      | some (.struct _) => none
      | some (.array _ _) => none
      | some _ => (match eqLeaf P f.type x y with
        | some true => eqFs P fs xs ys
        | some false => some false
        | none => none)
      | none => none)
    | _, _ => none

theorem eqFs_run {P : Program} {r : Env} {xs ys us vs : List Value} (h1 : RelL r xs us) (h2 : RelL r ys vs) (d : Nat) (w : World) : ∀ (fs : List Field) (b : Bool), eqFs P fs xs ys = some b →
    (Op.eqFields (d + 1) ⟨us⟩ ⟨vs⟩ fs).run P w = .ok b w
  | [], b, h => by simp [eqFs] at h; subst h; rfl
  | f :: fs, b, h => by
    simp only [eqFs] at h
    split at h
    · cases h
    · rename_i hn
      cases ex : xs[f.offset]? with
      | none => simp [ex] at h
      | some x =>
        cases ey : ys[f.offset]? with
        | none => simp [ex, ey] at h
        | some y =>
          simp only [ex, ey] at h
          obtain ⟨u, eu, hu⟩ := h1.get _ _ ex
          obtain ⟨v, ev, hv⟩ := h2.get _ _ ey
          cases eD : P.underlying f.type with
          | none => simp [eD] at h
          | some D =>
            have hD : isAggD D = false := by
              cases D <;> first | rfl | (simp only [eD] at h; cases h)
            have hp1 : (part f.type ⟨us⟩ f.offset).run P w = .ok u w := by
              simp [part, run_isAgg eD, hD, eu]
            have hp2 : (part f.type ⟨vs⟩ f.offset).run P w = .ok v w := by
              simp [part, run_isAgg eD, hD, ev]
            have h' : (match eqLeaf P f.type x y with | some true => eqFs P fs xs ys | some false => some false | none => none) = some b := by
              cases D <;> first | exact (by simpa only [eD] using h) | (simp [isAggD] at hD)
            cases el : eqLeaf P f.type x y with
            | none => simp [el] at h'
            | some q =>
              have hq := eqLeaf_run el hu hv d w
              rw [Op.eqFields]
              simp only [hn, ne_eq, not_false_eq_true, if_true, Sem.run_bind, hp1, hp2, hq, Result.andThen_ok, Sem.run_ite]
              cases q with
              | false => simp [el] at h'; subst h'; simp
              | true => simp only [el] at h'; simpa using eqFs_run h1 h2 d w fs b h'

def eqStruct (P : Program) (t : TypeId) (xs ys : List Value) : Option Bool := match P.underlying t with
  | some (.struct fs) => if P.stoodInHeld t then none else if P.eqGuardType P.depth t then none else eqFs P fs.toList xs ys
  | _ => none

def exEq (P : Program) (t : TypeId) (o2 : Operand) (x y : Value) : Option Bool := match x with
  | .agg xs => (match y with
    | .agg ys => eqStruct P t xs.toList ys.toList
    | _ => none)
  | .nilIface => (match y with
    | .nilIface => (match o2, P.underlying t with
      | .const _, some (.interface _) => some true
      | _, _ => none)
    | _ => eqLeaf P t x y)
  | .bool _ | .pointer _ | .iface _ _ | .nilFunc | .func _ _ _ | .map _ => eqLeaf P t x y
  | _ => none

/-- Operands that are neither integers nor strings: '==' goes to the equality. -/
theorem bin_eq {P : Program} {t : TypeId} {o1 o2 : Operand} {u1 u2 : Value} {b : Bool} {w : World} (hg : ∀ op, eqGuard op t o1 o2 u1 u2 = pure ()) (h1 : ∀ k n, u1 ≠ .int k n) (h2 : ∀ s, u1 ≠ .string s)
    (h3 : ∀ k n, u1 ≠ .float k n) (h4 : ∀ k n m, u1 ≠ .complex k n m) (he : (Op.equal t u1 u2).run P w = .ok b w) :
    (do eqGuard .eql t o1 o2 u1 u2; binOp .eql t u1 u2 : Sem Value).run P w = .ok (.bool b) w ∧ (do eqGuard .neq t o1 o2 u1 u2; binOp .neq t u1 u2 : Sem Value).run P w = .ok (.bool (!b)) w := by
  rw [hg, hg]
  cases u1 with
  | int k n => exact absurd rfl (h1 k n)
  | string s => exact absurd rfl (h2 s)
  | float k n => exact absurd rfl (h3 k n)
  | complex k n m => exact absurd rfl (h4 k n m)
  | _ => exact ⟨by simp [binOp, he], by simp [binOp, he]⟩

theorem exEq_run {P : Program} {t : TypeId} {o1 o2 : Operand} {x y u1 u2 : Value} {b : Bool} {r : Env} (h : exEq P t o2 x y = some b) (h1 : Rel r x u1) (h2 : Rel r y u2) (w : World) :
    (do eqGuard .eql t o1 o2 u1 u2; binOp .eql t u1 u2 : Sem Value).run P w = .ok (.bool b) w ∧ (do eqGuard .neq t o1 o2 u1 u2; binOp .neq t u1 u2 : Sem Value).run P w = .ok (.bool (!b)) w := by
  cases x with
  | agg xs =>
    cases y with
    | agg ys =>
      simp only [exEq] at h
      obtain ⟨us, rfl, hu⟩ := h1.agg_inv
      obtain ⟨vs, rfl, hv⟩ := h2.agg_inv
      unfold eqStruct at h
      cases eD : P.underlying t with
      | none => simp [eD] at h
      | some D =>
        cases D <;> simp only [eD] at h <;> try (cases h; done)
        rename_i fs
        split at h
        · cases h
        · rename_i hs
          split at h
          · cases h
          · rename_i hg
            have hf : P.fieldsOf t = fs := by simp [Program.fieldsOf, eD]
            have hr := eqFs_run (P := P) hu hv 9998 w fs.toList b h
            have he := run_equalIn_struct (P := P) w 9999 t us vs (by rw [hf]; exact eD) (by simpa using hs)
            rw [hf] at he
            have he' : (Op.equal t (.agg us) (.agg vs)).run P w = .ok b w := he.trans hr
            have hg' : P.eqGuardType P.depth t = false := by simpa using hg
            constructor <;> simp [eqGuard, hg', binOp, he']
    | _ => simp [exEq] at h
  | nilIface =>
    cases h1
    cases y with
    | nilIface =>
      cases h2
      simp only [exEq] at h
      cases o2 with
      | const c =>
        cases eD : P.underlying t with
        | none => simp [eD] at h
        | some D =>
          cases D <;> simp only [eD] at h <;> try (cases h; done)
          cases h
          exact bin_eq (fun op => eqGuard_nil_constR ..) (by simp) (by simp) (by simp) (by simp) (lf_i00 9999 w eD)
      | _ => simp at h
    | iface tt v =>
      have hq := eqLeaf_run h .nilIface h2 9999 w
      cases h2
      exact bin_eq (fun op => eqGuard_nil_iface ..) (by simp) (by simp) (by simp) (by simp) hq
    | _ =>
      have hq := eqLeaf_run h .nilIface h2 9999 w
      simp only [exEq, eqLeaf] at h
      cases eD : P.underlying t with
      | none => simp [eD] at h
      | some D => simp only [eD] at h; cases D <;> simp [eqLeafD] at h
  | bool q =>
    have hq := eqLeaf_run h h1 h2 9999 w
    cases h1
    exact bin_eq (fun op => eqGuard_at_bool ..) (by simp) (by simp) (by simp) (by simp) hq
  | pointer q =>
    have hq := eqLeaf_run h h1 h2 9999 w
    cases h1 <;> exact bin_eq (fun op => eqGuard_at_pointer ..) (by simp) (by simp) (by simp) (by simp) hq
  | iface tt q =>
    have hq := eqLeaf_run h h1 h2 9999 w
    cases h1
    exact bin_eq (fun op => eqGuard_at_iface ..) (by simp) (by simp) (by simp) (by simp) hq
  | nilFunc =>
    have hq := eqLeaf_run h h1 h2 9999 w
    cases h1
    exact bin_eq (fun op => eqGuard_at_nilFunc ..) (by simp) (by simp) (by simp) (by simp) hq
  | func f a c =>
    have hq := eqLeaf_run h h1 h2 9999 w
    cases h1
    exact bin_eq (fun op => eqGuard_at_func ..) (by simp) (by simp) (by simp) (by simp) hq
  | map q =>
    have hq := eqLeaf_run h h1 h2 9999 w
    cases h1 <;> exact bin_eq (fun op => eqGuard_at_map ..) (by simp) (by simp) (by simp) (by simp) hq
  | _ => simp [exEq] at h

end Go.Sx
