/- errors.As of a code: what the reflecting externs do. No condition. -/
import Derived.Test.YtkmicbhnfochjaaGreatDoorProg
import Derived.WalkKit
import Derived.LaidEql
import Derived.Stop.Asserts
import Derived.RowKitTokens
import Derived.KernelRfl

namespace Go.Proofs.YtkmicbhnfochjaaGreatDoor
open Go Go.RowKit Go.Extern.Stop Go.Stop Go.Extern
def As.valueOf : Array Value → Sem Value := fun args => ReflectliteValue.unpack (args.getD 0 (.tuple #[]))
theorem As.v54 (b : Nat) (w : World) : (As.valueOf #[.iface 54 (.pointer (some ⟨b, 0, none⟩))]).run Tryz.prog w = .ok (.agg #[.pointer (some ⟨7, 54, none⟩), .pointer (some ⟨w.heap.size, 0, none⟩), .int .u64 150]) { w with heap := w.heap.push (.cells #[.pointer (some ⟨b, 0, none⟩)] 54) } := by kernel_rfl
theorem As.v28 (n : Int) (w : World) : (As.valueOf #[.iface 28 (.int .i64 n)]).run Tryz.prog w = .ok (.agg #[.pointer (some ⟨7, 28, none⟩), .pointer (some ⟨w.heap.size, 0, none⟩), .int .u64 130]) { w with heap := w.heap.push (.cells #[.int .i64 n] 28) } := by kernel_rfl
def As.type : Array Value → Sem Value := ReflectliteValue.methodAny (ReflectliteValue.valueError "reflectlite.Value.Type" 0) fun t _ _ _ => ReflectliteType.toType t
theorem As.t54 (k : Nat) (w : World) : (As.type #[.agg #[.pointer (some ⟨7, 54, none⟩), .pointer (some ⟨k, 0, none⟩), .int .u64 150]]).run Tryz.prog w = .ok (.iface 174 (.agg #[.pointer (some ⟨7, 54, none⟩)])) w := by kernel_rfl
theorem As.typeOf (v : Value) (w : World) : (Extern.ReflectliteType.typeOf #[.iface 28 v]).run Tryz.prog w = .ok (.iface 174 (.agg #[.pointer (some ⟨7, 28, none⟩)])) w := by kernel_rfl
def As.elem : Array Value → Sem Value := ReflectliteType.method ReflectliteType.elem
theorem As.elem54 (w : World) : (As.elem #[.agg #[.pointer (some ⟨7, 54, none⟩)]]).run Tryz.prog w = .ok (.iface 174 (.agg #[.pointer (some ⟨7, 28, none⟩)])) w := by kernel_rfl
def As.impl : Array Value → Sem Value := ReflectliteType.relation "Implements" ReflectliteType.implements_
theorem As.impl28 (w : World) : (As.impl #[.agg #[.pointer (some ⟨7, 28, none⟩)], .iface 174 (.agg #[.pointer (some ⟨7, 24, none⟩)])]).run Tryz.prog w = .ok (.bool true) w := by kernel_rfl
def As.assign : Array Value → Sem Value := ReflectliteType.relation "AssignableTo" ReflectliteType.assignableTo
theorem As.assign28 (w : World) : (As.assign #[.agg #[.pointer (some ⟨7, 28, none⟩)], .iface 174 (.agg #[.pointer (some ⟨7, 28, none⟩)])]).run Tryz.prog w = .ok (.bool true) w := by kernel_rfl
def As.kind : Array Value → Sem Value := ReflectliteType.abiMethod fun t => do pure (.int .u8 (← Rtype.kind t))
theorem As.kind54 (w : World) : (As.kind #[.pointer (some ⟨7, 54, none⟩)]).run Tryz.prog w = .ok (.int .u8 22) w := by kernel_rfl
theorem As.kind28 (w : World) : (As.kind #[.pointer (some ⟨7, 28, none⟩)]).run Tryz.prog w = .ok (.int .u8 2) w := by kernel_rfl
end Go.Proofs.YtkmicbhnfochjaaGreatDoor
