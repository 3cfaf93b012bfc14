/- errors.Is of two codes is their equality. No condition. -/
import Derived.Test.YtglaapelpidfhaaGreatProg
import Derived.WalkKit
import Derived.LaidEql
import Derived.Stop.Asserts
import Derived.RowKitTokens
namespace Go.Proofs.YtglaapelpidfhaaGreat
open Go Go.RowKit Go.Extern.Stop Go.Stop Go.Extern

theorem Is.typeOf (v : Value) (w : World) : (Extern.ReflectliteType.typeOf #[.iface 60 v]).run Tryz.prog w = .ok (.iface 250 (.agg #[.pointer (some ⟨0, 60, none⟩)])) w := by kernel_rfl
def Is.row : Array Value → Sem Value := Extern.ReflectliteType.method fun t => do
  Extern.Rtype.noPackHeld "Comparable" t
  pure (.bool (← typeInfo t).comparable)
theorem Is.comparable (w : World) : (Is.row #[.agg #[.pointer (some ⟨0, 60, none⟩)]]).run Tryz.prog w = .ok (.bool true) w := by kernel_rfl
theorem Is.eq (a b : Int) (w : World) : (binOp .eql 35 (.iface 60 (.int .i64 a)) (.iface 60 (.int .i64 b))).run Tryz.prog w = .ok (.bool (decide (a = b))) w := by kernel_rfl
theorem Is.method (v : Value) (w : World) : (Go.method 491 250 v "Comparable").run Tryz.prog w = .ok (308, v) w := by kernel_rfl
theorem Is.noIs (v : Value) (xT : TypeId) (w : World) : (Instr.typeAssert (.iface 60 v) xT 252 true).run Tryz.prog w = .ok (.tuple #[.nilIface, .bool false]) w := run_typeAssert_lacksB Tryz.underlying252 (by kernel_rfl) (by kernel_rfl) v xT w
theorem Is.noUnwrap (v : Value) (xT : TypeId) (w : World) : (Instr.typeAssert (.iface 60 v) xT 254 true).run Tryz.prog w = .ok (.tuple #[.nilIface, .bool false]) w := run_typeAssert_lacksB Tryz.underlying254 (by kernel_rfl) (by kernel_rfl) v xT w
theorem Is.noUnwraps (v : Value) (xT : TypeId) (w : World) : (Instr.typeAssert (.iface 60 v) xT 255 true).run Tryz.prog w = .ok (.tuple #[.nilIface, .bool false]) w := run_typeAssert_lacksB Tryz.underlying255 (by kernel_rfl) (by kernel_rfl) v xT w


set_option maxRecDepth 100000 in
set_option maxHeartbeats 1000000 in
theorem is_same (a : Int) (w : World) :
    Calls Tryz.prog 62 #[.iface 60 (.int .i64 a), .iface 60 (.int .i64 a)] w fun e w' => e = .returned (.bool true) ∧ w' = w := by
  have h105 := @run_callFunc_extern Tryz.prog 105 _ Extern.ReflectliteType.typeOf Tryz.func105 (by kernel_rfl) (by kernel_rfl) (by kernel_rfl) (by kernel_rfl)
  have h308 := @run_callFunc_extern Tryz.prog 308 _ Is.row Tryz.func308 (by kernel_rfl) (by kernel_rfl) (by kernel_rfl) (by kernel_rfl)
  have tT := Is.typeOf
  have cT := Is.comparable
  have mR := Is.method
  have heq := Is.eq a a
  simp only [eq_self, decide_true] at heq
  go_enter Tryz.func62, Tryz.ntmps62
  go_wp2
  refine wp_loop_rounds 1 ?_
  rw [rounds_succ]
  go_wp2
  go_ret
  exact ⟨rfl, rfl⟩
set_option maxRecDepth 100000 in
set_option maxHeartbeats 1000000 in
theorem is_other (a b : Int) (h : a ≠ b) (w : World) :
    Calls Tryz.prog 62 #[.iface 60 (.int .i64 a), .iface 60 (.int .i64 b)] w fun e w' => e = .returned (.bool false) ∧ w' = w := by
  have h105 := @run_callFunc_extern Tryz.prog 105 _ Extern.ReflectliteType.typeOf Tryz.func105 (by kernel_rfl) (by kernel_rfl) (by kernel_rfl) (by kernel_rfl)
  have h308 := @run_callFunc_extern Tryz.prog 308 _ Is.row Tryz.func308 (by kernel_rfl) (by kernel_rfl) (by kernel_rfl) (by kernel_rfl)
  have tT := Is.typeOf
  have cT := Is.comparable
  have mR := Is.method
  have nI := Is.noIs
  have nU := Is.noUnwrap
  have nV := Is.noUnwraps
  have heq := Is.eq a b
  simp only [decide_eq_false h] at heq
  go_enter Tryz.func62, Tryz.ntmps62
  go_wp2
  refine wp_loop_rounds 1 ?_
  rw [rounds_succ]
  go_wp2
  go_ret
  exact ⟨rfl, rfl⟩
end Go.Proofs.YtglaapelpidfhaaGreat
