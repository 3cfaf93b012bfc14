/- errors.Is of two codes is their equality. No condition. -/
import Derived.Test.YtkmicbhnfochjaaGreatDoorMJo2
import Derived.WalkKit
import Derived.LaidEql
import Derived.Stop.Asserts
import Derived.RowKitTokens

namespace Go.Proofs.YtkmicbhnfochjaaGreatDoor
open Go Go.RowKit Go.Extern.Stop Go.Stop Go.Extern

theorem Is.typeOf (v : Value) (w : World) : (Extern.ReflectliteType.typeOf #[.iface 28 v]).run Tryz.prog w = .ok (.iface 174 (.agg #[.pointer (some ⟨7, 28, none⟩)])) w := by kernel_rfl
def Is.row : Array Value → Sem Value := Extern.ReflectliteType.method fun t => do
  Extern.Rtype.noPackHeld "Comparable" t
  pure (.bool (← typeInfo t).comparable)
theorem Is.comparable (w : World) : (Is.row #[.agg #[.pointer (some ⟨7, 28, none⟩)]]).run Tryz.prog w = .ok (.bool true) w := by kernel_rfl
theorem Is.eq (a b : Int) (w : World) : (binOp .eql 24 (.iface 28 (.int .i64 a)) (.iface 28 (.int .i64 b))).run Tryz.prog w = .ok (.bool (decide (a = b))) w := by kernel_rfl
theorem Is.method (v : Value) (w : World) : (Go.method 597 174 v "Comparable").run Tryz.prog w = .ok (392, v) w := by kernel_rfl
theorem Is.noIs (v : Value) (xT : TypeId) (w : World) : (Instr.typeAssert (.iface 28 v) xT 176 true).run Tryz.prog w = .ok (.tuple #[.nilIface, .bool false]) w := run_typeAssert_lacksB Tryz.underlying176 (by kernel_rfl) (by kernel_rfl) v xT w
theorem Is.noUnwrap (v : Value) (xT : TypeId) (w : World) : (Instr.typeAssert (.iface 28 v) xT 179 true).run Tryz.prog w = .ok (.tuple #[.nilIface, .bool false]) w := run_typeAssert_lacksB Tryz.underlying179 (by kernel_rfl) (by kernel_rfl) v xT w
theorem Is.noUnwraps (v : Value) (xT : TypeId) (w : World) : (Instr.typeAssert (.iface 28 v) xT 181 true).run Tryz.prog w = .ok (.tuple #[.nilIface, .bool false]) w := run_typeAssert_lacksB Tryz.underlying181 (by kernel_rfl) (by kernel_rfl) v xT w

set_option maxRecDepth 100000 in
set_option maxHeartbeats 1000000 in
theorem is_same (a : Int) (w : World) :
    Calls Tryz.prog 12 #[.iface 28 (.int .i64 a), .iface 28 (.int .i64 a)] w fun e w' => e = .returned (.bool true) ∧ w' = w := by
  have h26 := @run_callFunc_extern Tryz.prog 26 _ Extern.ReflectliteType.typeOf Tryz.func26 (by kernel_rfl) (by kernel_rfl) (by kernel_rfl) (by kernel_rfl)
  have h392 := @run_callFunc_extern Tryz.prog 392 _ Is.row Tryz.func392 (by kernel_rfl) (by kernel_rfl) (by kernel_rfl) (by kernel_rfl)
  have tT := Is.typeOf
  have cT := Is.comparable
  have mR := Is.method
  have heq := Is.eq a a
  simp only [eq_self, decide_true] at heq
  go_enter Tryz.func12, Tryz.ntmps12
  go_wp2
  refine wp_loop_rounds 1 ?_
  rw [rounds_succ]
  go_wp2
  go_ret
  exact ⟨rfl, rfl⟩
set_option maxRecDepth 100000 in
set_option maxHeartbeats 1000000 in
theorem is_other (a b : Int) (h : a ≠ b) (w : World) :
    Calls Tryz.prog 12 #[.iface 28 (.int .i64 a), .iface 28 (.int .i64 b)] w fun e w' => e = .returned (.bool false) ∧ w' = w := by
  have h26 := @run_callFunc_extern Tryz.prog 26 _ Extern.ReflectliteType.typeOf Tryz.func26 (by kernel_rfl) (by kernel_rfl) (by kernel_rfl) (by kernel_rfl)
  have h392 := @run_callFunc_extern Tryz.prog 392 _ Is.row Tryz.func392 (by kernel_rfl) (by kernel_rfl) (by kernel_rfl) (by kernel_rfl)
  have tT := Is.typeOf
  have cT := Is.comparable
  have mR := Is.method
  have nI := Is.noIs
  have nU := Is.noUnwrap
  have nV := Is.noUnwraps
  have heq := Is.eq a b
  simp only [decide_eq_false h] at heq
  go_enter Tryz.func12, Tryz.ntmps12
  go_wp2
  refine wp_loop_rounds 1 ?_
  rw [rounds_succ]
  go_wp2
  go_ret
  exact ⟨rfl, rfl⟩
theorem is_gives (a b : Int) : Sx.Gives Tryz.prog 12 [.iface 28 (.int .i64 a), .iface 28 (.int .i64 b)] (.bool (decide (a = b))) := by
  intro r us w hu
  have hus : us = #[.iface 28 (.int .i64 a), .iface 28 (.int .i64 b)] := by
    have := Sx.eachL_eq (Sx.bare_eq 9) (l := [.iface 28 (.int .i64 a), .iface 28 (.int .i64 b)]) rfl hu
    obtain ⟨us⟩ := us
    simp only at this
    rw [this]
  subst hus
  by_cases h : a = b
  · subst h
    exact Calls.mono (is_same a w) fun e w' ⟨he, hw⟩ => ⟨_, he, by simp only [decide_true]; exact (.bool _), by subst hw; exact Sx.Old.refl _⟩
  · exact Calls.mono (is_other a b h w) fun e w' ⟨he, hw⟩ => ⟨_, he, by simp only [decide_eq_false h]; exact (.bool _), by subst hw; exact Sx.Old.refl _⟩
end Go.Proofs.YtkmicbhnfochjaaGreatDoor
