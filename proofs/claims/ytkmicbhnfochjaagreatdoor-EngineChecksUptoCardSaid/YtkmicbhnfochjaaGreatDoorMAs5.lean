/- errors.As of a code: whether what a Value holds is nil. No condition. -/
import Derived.Test.YtkmicbhnfochjaaGreatDoorMAs

namespace Go.Proofs.YtkmicbhnfochjaaGreatDoor
open Go Go.RowKit Go.Extern.Stop Go.Stop Go.Extern
theorem As.parts54 (k : Nat) (w : World) : (ReflectliteValue.parts (.agg #[.pointer (some ⟨7, 54, none⟩), .pointer (some ⟨k, 0, none⟩), .int .u64 150])).run Tryz.prog w = .ok (some (54, ⟨k, 0, none⟩, 150)) w := by kernel_rfl
theorem As.agg54 (w : World) : (isAgg 54).run Tryz.prog w = .ok false w := by kernel_rfl
theorem As.isNil54 (k b : Nat) (w : World) (h : w.cell? ⟨k, 0, none⟩ = some (.pointer (some ⟨b, 0, none⟩))) : (ReflectliteValue.isNil 54 ⟨k, 0, none⟩ 150 22).run Tryz.prog w = .ok (.bool false) w := by
  simp [ReflectliteValue.isNil, loadVar, load, Sem.run, h]
def As.isNil : Array Value → Sem Value := ReflectliteValue.method (ReflectliteValue.valueError "reflectlite.Value.IsNil" 0) ReflectliteValue.isNil
set_option maxRecDepth 100000 in
theorem As.nil54 (k b : Nat) (w : World) (h : w.cell? ⟨k, 0, none⟩ = some (.pointer (some ⟨b, 0, none⟩))) : (As.isNil #[.agg #[.pointer (some ⟨7, 54, none⟩), .pointer (some ⟨k, 0, none⟩), .int .u64 150]]).run Tryz.prog w = .ok (.bool false) w := by
  have e := As.isNil54 k b w h
  show (ReflectliteValue.parts (.agg #[.pointer (some ⟨7, 54, none⟩), .pointer (some ⟨k, 0, none⟩), .int .u64 150]) >>= fun o => match o with
    | none => ReflectliteValue.valueError "reflectlite.Value.IsNil" 0
    | some (t, a, fl) => ReflectliteValue.isNil t a fl (fl % 32)).run Tryz.prog w = _
  rw [Sem.run_bind, As.parts54]
  exact e
end Go.Proofs.YtkmicbhnfochjaaGreatDoor

namespace Go.Proofs.YtkmicbhnfochjaaGreatDoor
open Go Go.RowKit Go.Extern.Stop Go.Stop Go.Extern
theorem As.mk28 (b : Nat) (w : World) : (ReflectliteValue.mk 28 ⟨b, 0, none⟩ 256).run Tryz.prog w = .ok (.agg #[.pointer (some ⟨7, 28, none⟩), .pointer (some ⟨b, 0, none⟩), .int .u64 386]) w := by kernel_rfl
theorem As.elemOf54 (w : World) : (Rtype.elem? 54).run Tryz.prog w = .ok (some 28) w := by kernel_rfl
set_option maxRecDepth 100000 in
theorem As.elemIn54 (k b : Nat) (w : World) (h : w.cell? ⟨k, 0, none⟩ = some (.pointer (some ⟨b, 0, none⟩))) : (ReflectliteValue.elem 54 ⟨k, 0, none⟩ 150 22).run Tryz.prog w = .ok (.agg #[.pointer (some ⟨7, 28, none⟩), .pointer (some ⟨b, 0, none⟩), .int .u64 386]) w := by
  have e1 := As.mk28 b w
  have e2 := As.elemOf54 w
  have e3 := As.agg54 w
  have e4 : (loadVar 54 ⟨k, 0, none⟩).run Tryz.prog w = .ok (.pointer (some ⟨b, 0, none⟩)) w := by
    simp only [loadVar, Sem.run_bind, e3, Result.andThen_ok, Bool.false_eq_true, if_false]
    simp [load, Sem.run, h]
  show ((loadVar 54 ⟨k, 0, none⟩ >>= fun v => Rtype.elem? 54 >>= fun e => match (22 : Nat), v, e with
    | 20, i, _ => ReflectliteValue.unpack i
    | 22, .pointer none, _ => pure ReflectliteValue.zeroV
    | 22, .pointer (some p), some e => ReflectliteValue.mk e p 256
    | _, _, _ => ReflectliteValue.valueError "reflectlite.Value.Elem" 22) : Sem Value).run Tryz.prog w = _
  rw [Sem.run_bind, e4]
  simp only [Result.andThen_ok]
  rw [Sem.run_bind, e2]
  simp only [Result.andThen_ok]
  exact e1
def As.elemV : Array Value → Sem Value := ReflectliteValue.method (ReflectliteValue.valueError "reflectlite.Value.Elem" 0) ReflectliteValue.elem
set_option maxRecDepth 100000 in
theorem As.elemVEq (k : Nat) (w : World) : (As.elemV #[.agg #[.pointer (some ⟨7, 54, none⟩), .pointer (some ⟨k, 0, none⟩), .int .u64 150]]).run Tryz.prog w = (ReflectliteValue.elem 54 ⟨k, 0, none⟩ 150 22).run Tryz.prog w := by kernel_rfl
set_option maxRecDepth 100000 in
theorem As.elemV54 (k b : Nat) (w : World) (h : w.cell? ⟨k, 0, none⟩ = some (.pointer (some ⟨b, 0, none⟩))) : (As.elemV #[.agg #[.pointer (some ⟨7, 54, none⟩), .pointer (some ⟨k, 0, none⟩), .int .u64 150]]).run Tryz.prog w = .ok (.agg #[.pointer (some ⟨7, 28, none⟩), .pointer (some ⟨b, 0, none⟩), .int .u64 386]) w :=
  (As.elemVEq k w).trans (As.elemIn54 k b w h)
theorem As.size28 (w : World) : (sizeOf 28).run Tryz.prog w = .ok 1 w := by kernel_rfl
theorem As.setEq (b k : Nat) (w : World) : (ReflectliteValue.set #[.agg #[.pointer (some ⟨7, 28, none⟩), .pointer (some ⟨b, 0, none⟩), .int .u64 386], .agg #[.pointer (some ⟨7, 28, none⟩), .pointer (some ⟨k, 0, none⟩), .int .u64 130]]).run Tryz.prog w =
    (load ⟨k, 0, none⟩ >>= fun v => storeVar 28 ⟨b, 0, none⟩ v >>= fun _ => pure (.tuple #[]) : Sem Value).run Tryz.prog w := by kernel_rfl
theorem As.set28 (b k : Nat) (n : Int) (x : Value) (w : World) (hk : w.cell? ⟨k, 0, none⟩ = some (.int .i64 n)) (hb : w.cell? ⟨b, 0, none⟩ = some x) (hf : w.frozen? ⟨b, 0, none⟩ = false) :
    (ReflectliteValue.set #[.agg #[.pointer (some ⟨7, 28, none⟩), .pointer (some ⟨b, 0, none⟩), .int .u64 386], .agg #[.pointer (some ⟨7, 28, none⟩), .pointer (some ⟨k, 0, none⟩), .int .u64 130]]).run Tryz.prog w = .ok (.tuple #[]) (w.setCell ⟨b, 0, none⟩ (.int .i64 n)) := by
  rw [As.setEq]
  have e4 : (load ⟨k, 0, none⟩).run Tryz.prog w = .ok (.int .i64 n) w := by simp [load, Sem.run, hk]
  have e5 : (storeVar 28 ⟨b, 0, none⟩ (.int .i64 n)).run Tryz.prog w = .ok () (w.setCell ⟨b, 0, none⟩ (.int .i64 n)) := by
    simp only [storeVar, Sem.run_bind, As.size28, Result.andThen_ok]
    simp [Value.cells, storeCells]
    rw [run_store_int, show (⟨b, 0, none⟩ : Addr).add 0 = ⟨b, 0, none⟩ from rfl]
    simp [stored, hb, hf]
  rw [Sem.run_bind, e4]
  simp only [Result.andThen_ok, Sem.run_bind, e5]
  rfl
end Go.Proofs.YtkmicbhnfochjaaGreatDoor
