/- errors.As of a code: the walk. Conditions: the cell is there and may be written; errors.errorType lies in the first block. -/
import Derived.Test.YtkmicbhnfochjaaGreatDoorMAs5
import Derived.Test.YtkmicbhnfochjaaGreatDoorMSxRnd
import Derived.Below

namespace Go.Proofs.YtkmicbhnfochjaaGreatDoor
open Go Go.RowKit Go.Extern.Stop Go.Stop Go.Extern
theorem As.mKind (t : Nat) (w : World) : (Go.method 597 174 (.agg #[.pointer (some ⟨7, t, none⟩)]) "Kind").run Tryz.prog w = .ok (122, .pointer (some ⟨7, t, none⟩)) w := by kernel_rfl
theorem As.mElem (v : Value) (w : World) : (Go.method 597 174 v "Elem").run Tryz.prog w = .ok (393, v) w := by kernel_rfl
theorem As.mImpl (v : Value) (w : World) : (Go.method 597 174 v "Implements").run Tryz.prog w = .ok (394, v) w := by kernel_rfl
theorem As.mAssign (v : Value) (w : World) : (Go.method 597 174 v "AssignableTo").run Tryz.prog w = .ok (391, v) w := by kernel_rfl
set_option maxRecDepth 100000 in
set_option maxHeartbeats 1000000 in
theorem as_code (n : Int) (b : Nat) (w : World) (hb : w.cell? ⟨b, 0, none⟩ = some (.int .i64 0)) (hf : w.frozen? ⟨b, 0, none⟩ = false) (hE : w.cell? ⟨0, 0, none⟩ = some (.iface 174 (.agg #[.pointer (some ⟨7, 24, none⟩)]))) :
    Calls Tryz.prog 17 #[.iface 28 (.int .i64 n), .iface 54 (.pointer (some ⟨b, 0, none⟩))] w fun e w' => e = .returned (.bool true) ∧ w'.cell? ⟨b, 0, none⟩ = some (.int .i64 n) ∧ w'.os = w.os ∧ w'.tape = w.tape ∧ w'.output = w.output ∧ w.heap.size ≤ w'.heap.size ∧ ∀ k, k < w.heap.size → k ≠ b → w'.heap[k]? = w.heap[k]? := by
  have h32 := @run_callFunc_extern Tryz.prog 32 _ As.valueOf Tryz.func32 (by kernel_rfl) (by kernel_rfl) (by kernel_rfl) (by kernel_rfl)
  have h33 := @run_callFunc_extern Tryz.prog 33 _ As.type Tryz.func33 (by kernel_rfl) (by kernel_rfl) (by kernel_rfl) (by kernel_rfl)
  have h122 := @run_callFunc_extern Tryz.prog 122 _ As.kind Tryz.func122 (by kernel_rfl) (by kernel_rfl) (by kernel_rfl) (by kernel_rfl)
  have h393 := @run_callFunc_extern Tryz.prog 393 _ As.elem Tryz.func393 (by kernel_rfl) (by kernel_rfl) (by kernel_rfl) (by kernel_rfl)
  have h394 := @run_callFunc_extern Tryz.prog 394 _ As.impl Tryz.func394 (by kernel_rfl) (by kernel_rfl) (by kernel_rfl) (by kernel_rfl)
  have h34 := @run_callFunc_extern Tryz.prog 34 _ As.isNil Tryz.func34 (by kernel_rfl) (by kernel_rfl) (by kernel_rfl) (by kernel_rfl)
  have n54 := fun k w => As.nil54 k b w
  have v54 := As.v54
  have t54 := As.t54
  have mK := As.mKind
  have mE := As.mElem
  have mI := As.mImpl
  have k54 := As.kind54
  have k28 := As.kind28
  have e54 := As.elem54
  have i28 := As.impl28
  have h0 : 0 < w.heap.size := by
    refine Nat.lt_of_not_le fun q => ?_
    have : w.heap[0]? = none := Array.getElem?_eq_none q
    simp [World.cell?, this] at hE
  have hE1 : (w.alloc (.cells #[.pointer (some ⟨b, 0, none⟩)] 54)).cell? ⟨0, 0, none⟩ = some (.iface 174 (.agg #[.pointer (some ⟨7, 24, none⟩)])) := by
    rw [World.cell?_alloc_past _ _ _ h0]; exact hE
  have hE2 : ∀ o, ((w.alloc (.cells #[.pointer (some ⟨b, 0, none⟩)] 54)).alloc o).cell? ⟨0, 0, none⟩ = some (.iface 174 (.agg #[.pointer (some ⟨7, 24, none⟩)])) := fun o => by
    rw [World.cell?_alloc_past _ _ _ (Nat.lt_of_lt_of_le h0 (by show _ ≤ (w.heap.push _).size; simp))]; exact hE1
  have mA := As.mAssign
  go_enter Tryz.func17, Tryz.ntmps17
  have h26 := @run_callFunc_extern Tryz.prog 26 _ Extern.ReflectliteType.typeOf Tryz.func26 (by kernel_rfl) (by kernel_rfl) (by kernel_rfl) (by kernel_rfl)
  have h391 := @run_callFunc_extern Tryz.prog 391 _ As.assign Tryz.func391 (by kernel_rfl) (by kernel_rfl) (by kernel_rfl) (by kernel_rfl)
  have h54 := @run_callFunc_extern Tryz.prog 54 _ As.elemV Tryz.func54 (by kernel_rfl) (by kernel_rfl) (by kernel_rfl) (by kernel_rfl)
  have h55 := @run_callFunc_extern Tryz.prog 55 _ ReflectliteValue.set Tryz.func55 (by kernel_rfl) (by kernel_rfl) (by kernel_rfl) (by kernel_rfl)
  have hsz : ∀ (w : World) (o : Obj), (w.alloc o).heap.size = w.heap.size + 1 := fun w o => by show (w.heap.push o).size = _; simp
  have hb0 : b < w.heap.size := by
    refine Nat.lt_of_not_le fun q => ?_
    have : w.heap[b]? = none := Array.getElem?_eq_none q
    simp [World.cell?, this] at hb
  have eV := fun o1 o2 => As.elemV54 w.heap.size b (((w.alloc (.cells #[.pointer (some ⟨b, 0, none⟩)] 54)).alloc o1).alloc o2) (by
    rw [World.cell?_alloc_past _ _ _ (by rw [hsz, hsz]; omega), World.cell?_alloc_past _ _ _ (by rw [hsz]; omega), World.cell?_alloc_at _ _ _ _ rfl]; rfl)
  have s28 := fun o1 o2 => As.set28 b (w.heap.size + 1 + 1 + 1) n (.int .i64 0) ((((w.alloc (.cells #[.pointer (some ⟨b, 0, none⟩)] 54)).alloc o1).alloc o2).alloc (.cells #[.int .i64 n] 28))
    (by rw [World.cell?_alloc_at _ _ _ _ (by rw [hsz, hsz, hsz])]; rfl)
    (by rw [World.cell?_alloc_past _ _ _ (by rw [hsz, hsz, hsz]; omega), World.cell?_alloc_past _ _ _ (by rw [hsz, hsz]; omega), World.cell?_alloc_past _ _ _ (by rw [hsz]; omega), World.cell?_alloc_past _ _ _ hb0]; exact hb)
    (by rw [World.frozen?_alloc_past _ _ _ (by rw [hsz, hsz, hsz]; omega), World.frozen?_alloc_past _ _ _ (by rw [hsz, hsz]; omega), World.frozen?_alloc_past _ _ _ (by rw [hsz]; omega), World.frozen?_alloc_past _ _ _ hb0]; exact hf)
  have tO := As.typeOf
  have a28 := As.assign28
  have v28 : ∀ w : World, (As.valueOf #[.iface 28 (.int .i64 n)]).run Tryz.prog w = .ok (.agg #[.pointer (some ⟨7, 28, none⟩), .pointer (some ⟨w.heap.size, 0, none⟩), .int .u64 130]) (w.alloc (.cells #[.int .i64 n] 28)) := fun w => As.v28 n w
  go_wp2
  refine Go.Sx.wp_loop_of (Go.Sx.loopWp_step ?_)
  go_wp2
  go_ret
  have hp : ∀ (w : World) (o : Obj) (k : Nat), k < w.heap.size → (w.alloc o).heap[k]? = w.heap[k]? := fun w o k h => by
    show (w.heap.push o)[k]? = _
    simp [Array.getElem?_push, Nat.ne_of_lt h]
  refine ⟨rfl, ?_, rfl, rfl, rfl, ?_, fun k hk hkb => ?_⟩
  · refine World.cell?_setCell_same _ _ _ (?_ : _ = some (.int .i64 0))
    rw [World.cell?_alloc_past _ _ _ (by rw [hsz, hsz, hsz]; omega), World.cell?_alloc_past _ _ _ (by rw [hsz, hsz]; omega), World.cell?_alloc_past _ _ _ (by rw [hsz]; omega), World.cell?_alloc_past _ _ _ hb0]; exact hb
  · rw [World.size_setCell, hsz, hsz, hsz, hsz]; omega
  · rw [Below.heap_setCell _ _ _ _ hkb, hp _ _ _ (by rw [hsz, hsz, hsz]; omega), hp _ _ _ (by rw [hsz, hsz]; omega), hp _ _ _ (by rw [hsz]; omega), hp _ _ _ hk]
end Go.Proofs.YtkmicbhnfochjaaGreatDoor
