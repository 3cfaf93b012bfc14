/- errors.Is of a code that came by a place, or two. No condition. -/
import Derived.Test.YtglaapelpidfhaaGreatIs
namespace Go.Proofs.YtglaapelpidfhaaGreat
open Go Go.RowKit Go.Extern.Stop Go.Stop Go.Extern
theorem Is.eqF (v : Value) (a : Int) (w : World) : (binOp .eql 35 (.iface 234 v) (.iface 60 (.int .i64 a))).run Tryz.prog w = .ok (.bool false) w := by kernel_rfl
theorem Is.noIsF (v : Value) (xT : TypeId) (w : World) : (Instr.typeAssert (.iface 234 v) xT 252 true).run Tryz.prog w = .ok (.tuple #[.nilIface, .bool false]) w := run_typeAssert_lacksB Tryz.underlying252 (by kernel_rfl) (by kernel_rfl) v xT w
theorem Is.hasF (v : Value) (xT : TypeId) (w : World) : (Instr.typeAssert (.iface 234 v) xT 254 true).run Tryz.prog w = .ok (.tuple #[.iface 234 v, .bool true]) w := run_typeAssert_hasB Tryz.underlying254 (by kernel_rfl) v xT w
theorem Is.unwrap (b o : Nat) (w : World) : (Go.method 491 234 (.pointer (some ⟨b, o, none⟩)) "Unwrap").run Tryz.prog w = .ok (304, .pointer (some ⟨b, o, none⟩)) w := by kernel_rfl
set_option maxRecDepth 100000 in
set_option maxHeartbeats 2000000 in
theorem is_wrap1_same (b0 o0 : Nat) (a b : Int) (h : b = a) (w : World) (hc0 : w.cell? ⟨b0, o0 + 2, none⟩ = some (.iface 60 (.int .i64 b))) :
    Calls Tryz.prog 62 #[.iface 234 (.pointer (some ⟨b0, o0, none⟩)), .iface 60 (.int .i64 a)] w fun e w' => e = .returned (.bool true) ∧ w' = w := by
  have h105 := @run_callFunc_extern Tryz.prog 105 _ Extern.ReflectliteType.typeOf Tryz.func105 (by kernel_rfl) (by kernel_rfl) (by kernel_rfl) (by kernel_rfl)
  have h308 := @run_callFunc_extern Tryz.prog 308 _ Is.row Tryz.func308 (by kernel_rfl) (by kernel_rfl) (by kernel_rfl) (by kernel_rfl)
  have tT := Is.typeOf
  have cT := Is.comparable
  have mR := Is.method
  have nI := Is.noIs
  have nU := Is.noUnwrap
  have nV := Is.noUnwraps
  have eF := Is.eqF
  have nIF := Is.noIsF
  have hF := Is.hasF
  have mU := Is.unwrap
  have heq := Is.eq b a
  simp only [decide_eq_true h] at heq
  clear h
  go_enter Tryz.func62, Tryz.ntmps62
  go_wp2
  refine wp_loop_rounds 2 ?_
  rw [rounds_succ]
  go_wp2
  rw [rounds_succ]
  go_wp2
  go_ret
  exact ⟨rfl, rfl⟩
set_option maxRecDepth 100000 in
set_option maxHeartbeats 2000000 in
theorem is_wrap1_other (b0 o0 : Nat) (a b : Int) (h : b ≠ a) (w : World) (hc0 : w.cell? ⟨b0, o0 + 2, none⟩ = some (.iface 60 (.int .i64 b))) :
    Calls Tryz.prog 62 #[.iface 234 (.pointer (some ⟨b0, o0, none⟩)), .iface 60 (.int .i64 a)] w fun e w' => e = .returned (.bool false) ∧ w' = w := by
  have h105 := @run_callFunc_extern Tryz.prog 105 _ Extern.ReflectliteType.typeOf Tryz.func105 (by kernel_rfl) (by kernel_rfl) (by kernel_rfl) (by kernel_rfl)
  have h308 := @run_callFunc_extern Tryz.prog 308 _ Is.row Tryz.func308 (by kernel_rfl) (by kernel_rfl) (by kernel_rfl) (by kernel_rfl)
  have tT := Is.typeOf
  have cT := Is.comparable
  have mR := Is.method
  have nI := Is.noIs
  have nU := Is.noUnwrap
  have nV := Is.noUnwraps
  have eF := Is.eqF
  have nIF := Is.noIsF
  have hF := Is.hasF
  have mU := Is.unwrap
  have heq := Is.eq b a
  simp only [decide_eq_false h] at heq
  clear h
  go_enter Tryz.func62, Tryz.ntmps62
  go_wp2
  refine wp_loop_rounds 2 ?_
  rw [rounds_succ]
  go_wp2
  rw [rounds_succ]
  go_wp2
  go_ret
  exact ⟨rfl, rfl⟩
set_option maxRecDepth 100000 in
set_option maxHeartbeats 2000000 in
theorem is_wrap2_same (b0 o0 : Nat) (b1 o1 : Nat) (a b : Int) (h : b = a) (w : World) (hc0 : w.cell? ⟨b0, o0 + 2, none⟩ = some (.iface 234 (.pointer (some ⟨b1, o1, none⟩)))) (hc1 : w.cell? ⟨b1, o1 + 2, none⟩ = some (.iface 60 (.int .i64 b))) :
    Calls Tryz.prog 62 #[.iface 234 (.pointer (some ⟨b0, o0, none⟩)), .iface 60 (.int .i64 a)] w fun e w' => e = .returned (.bool true) ∧ w' = w := by
  have h105 := @run_callFunc_extern Tryz.prog 105 _ Extern.ReflectliteType.typeOf Tryz.func105 (by kernel_rfl) (by kernel_rfl) (by kernel_rfl) (by kernel_rfl)
  have h308 := @run_callFunc_extern Tryz.prog 308 _ Is.row Tryz.func308 (by kernel_rfl) (by kernel_rfl) (by kernel_rfl) (by kernel_rfl)
  have tT := Is.typeOf
  have cT := Is.comparable
  have mR := Is.method
  have nI := Is.noIs
  have nU := Is.noUnwrap
  have nV := Is.noUnwraps
  have eF := Is.eqF
  have nIF := Is.noIsF
  have hF := Is.hasF
  have mU := Is.unwrap
  have heq := Is.eq b a
  simp only [decide_eq_true h] at heq
  clear h
  go_enter Tryz.func62, Tryz.ntmps62
  go_wp2
  refine wp_loop_rounds 3 ?_
  rw [rounds_succ]
  go_wp2
  rw [rounds_succ]
  go_wp2
  rw [rounds_succ]
  go_wp2
  go_ret
  exact ⟨rfl, rfl⟩
set_option maxRecDepth 100000 in
set_option maxHeartbeats 2000000 in
theorem is_wrap2_other (b0 o0 : Nat) (b1 o1 : Nat) (a b : Int) (h : b ≠ a) (w : World) (hc0 : w.cell? ⟨b0, o0 + 2, none⟩ = some (.iface 234 (.pointer (some ⟨b1, o1, none⟩)))) (hc1 : w.cell? ⟨b1, o1 + 2, none⟩ = some (.iface 60 (.int .i64 b))) :
    Calls Tryz.prog 62 #[.iface 234 (.pointer (some ⟨b0, o0, none⟩)), .iface 60 (.int .i64 a)] w fun e w' => e = .returned (.bool false) ∧ w' = w := by
  have h105 := @run_callFunc_extern Tryz.prog 105 _ Extern.ReflectliteType.typeOf Tryz.func105 (by kernel_rfl) (by kernel_rfl) (by kernel_rfl) (by kernel_rfl)
  have h308 := @run_callFunc_extern Tryz.prog 308 _ Is.row Tryz.func308 (by kernel_rfl) (by kernel_rfl) (by kernel_rfl) (by kernel_rfl)
  have tT := Is.typeOf
  have cT := Is.comparable
  have mR := Is.method
  have nI := Is.noIs
  have nU := Is.noUnwrap
  have nV := Is.noUnwraps
  have eF := Is.eqF
  have nIF := Is.noIsF
  have hF := Is.hasF
  have mU := Is.unwrap
  have heq := Is.eq b a
  simp only [decide_eq_false h] at heq
  clear h
  go_enter Tryz.func62, Tryz.ntmps62
  go_wp2
  refine wp_loop_rounds 3 ?_
  rw [rounds_succ]
  go_wp2
  rw [rounds_succ]
  go_wp2
  rw [rounds_succ]
  go_wp2
  go_ret
  exact ⟨rfl, rfl⟩
end Go.Proofs.YtglaapelpidfhaaGreat
