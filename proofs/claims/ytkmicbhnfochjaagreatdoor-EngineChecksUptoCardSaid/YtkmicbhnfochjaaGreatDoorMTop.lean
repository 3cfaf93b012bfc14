/- The statement's function, by what it calls. No condition. -/
import Derived.Test.YtkmicbhnfochjaaGreatDoorMEnl6
import Derived.Test.YtkmicbhnfochjaaGreatDoorMIs
import Derived.Test.YtkmicbhnfochjaaGreatDoorMAwkG

namespace Go.Proofs.YtkmicbhnfochjaaGreatDoor
open Go Go.Sx Go.Eng
def onIs : List Value → Option (Bool × Value)
  | [.iface 28 (.int .i64 a), .iface 28 (.int .i64 b)] => some (true, .bool (decide (a = b)))
  | _ => none
/-- What the engine's lines tell: an error, or none. -/
def onEng (n c : Int) : List Value → Option (Bool × Value)
  | [.string s] => some (decide (s.data.toList.length ≤ 4294967280 ∧ lnAt s = n ∧ lnCode s = c ∧ c ≠ 0), .tuple ⟨[.chan none, .int .i64 n, .iface 28 (.int .i64 c)]⟩)
  | _ => none
def onEng0 (n : Int) : List Value → Option (Bool × Value)
  | [.string s] => some (decide (s.data.toList.length ≤ 4294967280 ∧ lnAt s = n ∧ lnCode s = 0), .tuple ⟨[.chan none, .int .i64 n, .nilIface]⟩)
  | _ => none
def onRef (n c : Int) : List Value → Option (Bool × Value)
  | [.string s] => some (decide (s.data.toList.length ≤ 4294967280 ∧ lnAt s = n ∧ lnCode s = c), .tuple ⟨[.agg ⟨[.int .i64 (lnLm 0 s), .int .i64 (lnLm 1 s), .int .i64 (lnLm 2 s), .int .i64 (lnLm 3 s), .int .i64 (lnLm 4 s), .int .i64 (lnLm 5 s)]⟩, .chan none, .int .i64 n, .int .i64 c]⟩)
  | _ => none
def onAwk : List Value → Option (Bool × Value)
  | [] => some (true, .bool true)
  | _ => none
noncomputable def conE7 : Contracts := addW (addK conE6 12 onIs) 4 glob onAwk
noncomputable def conTE (n c : Int) : Contracts := addW (addW conE7 11 glob (onEng n c)) 7 glob (onRef n c)
noncomputable def conTN (n : Int) : Contracts := addW (addW conE7 11 glob (onEng0 n)) 7 glob (onRef n 0)
theorem onIs_ok {xs : List Value} {b : Bool} {v : Value} (h : onIs xs = some (b, v)) : Gives Tryz.prog 12 xs v := by
  unfold onIs at h
  split at h
  · cases h; exact is_gives _ _
  · cases h
theorem onAwk_ok {xs : List Value} {b : Bool} {v : Value} (h : onAwk xs = some (b, v)) : GivesW Tryz.prog glob 4 xs v := by
  unfold onAwk at h
  split at h
  · cases h; exact awake_gives
  · cases h
theorem conE7_holds : Holds Tryz.prog conE7 := (conE6_holds.addK fun _ _ _ h _ => onIs_ok h).addW fun _ _ _ h _ => onAwk_ok h
theorem onEng_ok {n c : Int} {xs : List Value} {b : Bool} {v : Value} (h : onEng n c xs = some (b, v)) (hb : b = true) : GivesW Tryz.prog glob 11 xs v := by
  unfold onEng at h
  split at h
  · rename_i s
    cases h
    obtain ⟨h1, h2, h3, h4⟩ := of_decide_eq_true hb
    have := enl_gives h1
    unfold enV errV at this
    rw [h2, h3, decide_eq_false h4, cond_false] at this
    exact this
  · cases h
theorem onEng0_ok {n : Int} {xs : List Value} {b : Bool} {v : Value} (h : onEng0 n xs = some (b, v)) (hb : b = true) : GivesW Tryz.prog glob 11 xs v := by
  unfold onEng0 at h
  split at h
  · rename_i s
    cases h
    obtain ⟨h1, h2, h3⟩ := of_decide_eq_true hb
    have := enl_gives h1
    unfold enV errV at this
    rw [h2, h3, decide_eq_true rfl, cond_true] at this
    exact this
  · cases h
theorem onRef_ok {n c : Int} {xs : List Value} {b : Bool} {v : Value} (h : onRef n c xs = some (b, v)) (hb : b = true) : GivesW Tryz.prog glob 7 xs v := by
  unfold onRef at h
  split at h
  · rename_i s
    cases h
    obtain ⟨h1, h2, h3⟩ := of_decide_eq_true hb
    have := lns_gives h1
    unfold lnV at this
    rw [h2, h3] at this
    exact this
  · cases h
theorem conTE_holds (n c : Int) : Holds Tryz.prog (conTE n c) := (conE7_holds.addW fun _ _ _ h hb => onEng_ok h hb).addW fun _ _ _ h hb => onRef_ok h hb
theorem conTN_holds (n : Int) : Holds Tryz.prog (conTN n) := (conE7_holds.addW fun _ _ _ h hb => onEng0_ok h hb).addW fun _ _ _ h hb => onRef_ok h hb
set_option maxRecDepth 100000 in
theorem top_mid {B : Nat} {w0 : World} {s : ByteArray} {n c : Int} (h0 : (decide ((↑s.data.toList.length : Int) > (4000 : Int))) = true) (h1 : (decide ((↑s.data.toList.length : Int) ≤ (32768 : Int))) = true) (hg : StableAt glob B ∧ glob w0) : Does Tryz.prog 1 [(0, .args B w0)] 80 [(0, .args B w0)] (.call 3 [.string s]) (.val (.bool true)) :=
  call_of mixed (conTE_holds n c) [] [(0, false)] (d := [(0, .br true), (1, .br true), (2, .br true), (3, .br true), (4, .br true)]) (n := 600) (c2 := 1) (L' := []) (L := [.p (StableAt glob B ∧ glob w0), .b ((decide ((↑s.data.toList.length : Int) ≤ (32768 : Int))) == true), .b ((decide ((↑s.data.toList.length : Int) > (4000 : Int))) == true), .b ((decide ((↑s.data.toList.length : Int) > (4000 : Int))) == true), .b ((decide ((↑s.data.toList.length : Int) > (4000 : Int))) == true), .b ((decide ((↑s.data.toList.length : Int) > (4000 : Int))) == true)]) (by kernel_rfl) rfl rfl (vcs_nil) (vcs_cons (vc_p hg) (vcs_cons (vc_b h1) (vcs_cons (vc_b h0) (vcs_cons (vc_b h0) (vcs_cons (vc_b h0) (vcs_cons (vc_b h0) vcs_nil))))))
set_option maxRecDepth 100000 in
theorem top_long {B : Nat} {w0 : World} {s : ByteArray} {n c : Int} (h0 : (decide ((↑s.data.toList.length : Int) > (4000 : Int))) = true) (h1 : (decide ((↑s.data.toList.length : Int) ≤ (32768 : Int))) = false) (h2 : (decide (s.data.toList.length ≤ (4294967280 : Nat) ∧ lnAt s = n ∧ lnCode s = c ∧ c ≠ (0 : Int))) = true) (h3 : (decide ((↑s.data.toList.length : Int) > (32768 : Int))) = true) (h4 : (n == (0 : Int)) = true) (h5 : (decide (c = (8 : Int))) = true) (hg : StableAt glob B ∧ glob w0) : Does Tryz.prog 1 [(0, .args B w0)] 80 [(0, .args B w0)] (.call 3 [.string s]) (.val (.bool true)) :=
  call_of mixed (conTE_holds n c) [] [(0, false)] (d := [(0, .br true), (1, .br true), (2, .br true), (3, .br true), (4, .br false), (5, .br true), (6, .br true), (7, .br true), (8, .br true), (10, .br true), (11, .br true), (13, .br true)]) (n := 600) (c2 := 1) (L' := []) (L := [.b ((decide (c = (8 : Int))) == true), .p (StableAt glob B ∧ glob w0), .b ((decide (c = (8 : Int))) == true), .b ((n == (0 : Int)) == true), .b ((n == (0 : Int)) == true), .b ((n == (0 : Int)) == true), .b ((decide ((↑s.data.toList.length : Int) > (32768 : Int))) == true), .b (decide (s.data.toList.length ≤ (4294967280 : Nat) ∧ lnAt s = n ∧ lnCode s = c ∧ c ≠ (0 : Int))), .p (StableAt glob B ∧ glob w0), .b ((decide ((↑s.data.toList.length : Int) ≤ (32768 : Int))) == false), .b ((decide ((↑s.data.toList.length : Int) > (4000 : Int))) == true), .b ((decide ((↑s.data.toList.length : Int) > (4000 : Int))) == true), .b ((decide ((↑s.data.toList.length : Int) > (4000 : Int))) == true), .b ((decide ((↑s.data.toList.length : Int) > (4000 : Int))) == true)]) (by kernel_rfl) rfl rfl (vcs_nil) (vcs_cons (vc_b h5) (vcs_cons (vc_p hg) (vcs_cons (vc_b h5) (vcs_cons (vc_b h4) (vcs_cons (vc_b h4) (vcs_cons (vc_b h4) (vcs_cons (vc_b h3) (vcs_cons (vc_c h2) (vcs_cons (vc_p hg) (vcs_cons (vc_b h1) (vcs_cons (vc_b h0) (vcs_cons (vc_b h0) (vcs_cons (vc_b h0) (vcs_cons (vc_b h0) vcs_nil))))))))))))))
set_option maxRecDepth 100000 in
theorem top_err {B : Nat} {w0 : World} {s : ByteArray} {n c : Int} (h0 : (decide ((↑s.data.toList.length : Int) > (4000 : Int))) = false) (h1 : (decide (s.data.toList.length ≤ (4294967280 : Nat) ∧ lnAt s = n ∧ lnCode s = c ∧ c ≠ (0 : Int))) = true) (h2 : (decide ((↑s.data.toList.length : Int) > (32768 : Int))) = false) (h3 : (decide (s.data.toList.length ≤ (4294967280 : Nat) ∧ lnAt s = n ∧ lnCode s = c)) = true) (h4 : (n != n) = false) (h5 : (c != c) = false) (h6 : (!Bool.false == (c == (0 : Int))) = false) (h7 : (n == n) = true) (h8 : (c == c) = true) (hg : StableAt glob B ∧ glob w0) : Does Tryz.prog 1 [(0, .args B w0)] 80 [(0, .args B w0)] (.call 3 [.string s]) (.val (.bool true)) :=
  call_of mixed (conTE_holds n c) [] [(0, false)] (d := [(0, .br false), (1, .br false), (2, .br false), (3, .br false), (5, .br true), (6, .br false), (7, .br true), (9, .br false), (10, .br false), (12, .br false), (13, .br false), (14, .br false), (15, .br false), (16, .br false), (17, .br false), (18, .br false), (19, .br false), (20, .br false), (21, .br false), (23, .br true), (64, .br true), (65, .br true), (67, .br true), (68, .br true), (69, .br true), (70, .br true), (72, .br true)]) (n := 600) (c2 := 6) (L' := []) (L := [.b ((c == c) == true), .p (StableAt glob B ∧ glob w0), .b ((c == c) == true), .b ((n == n) == true), .b ((n == n) == true), .b ((n == n) == true), .p (StableAt glob B ∧ glob w0), .b ((n == n) == true), .b ((n == n) == true), .b (decide (s.data.toList.length ≤ (4294967280 : Nat) ∧ lnAt s = n ∧ lnCode s = c ∧ c ≠ (0 : Int))), .p (StableAt glob B ∧ glob w0), .b ((!Bool.false == (c == (0 : Int))) == false), .b ((c != c) == false), .b ((c != c) == false), .b ((c != c) == false), .b ((c != c) == false), .b ((c != c) == false), .b ((c != c) == false), .b ((n != n) == false), .b ((n != n) == false), .b ((n != n) == false), .p (StableAt glob B ∧ glob w0), .b ((n != n) == false), .b ((n != n) == false), .b (decide (s.data.toList.length ≤ (4294967280 : Nat) ∧ lnAt s = n ∧ lnCode s = c)), .p (StableAt glob B ∧ glob w0), .b ((decide ((↑s.data.toList.length : Int) > (32768 : Int))) == false), .b (decide (s.data.toList.length ≤ (4294967280 : Nat) ∧ lnAt s = n ∧ lnCode s = c ∧ c ≠ (0 : Int))), .p (StableAt glob B ∧ glob w0), .b ((decide ((↑s.data.toList.length : Int) > (4000 : Int))) == false), .b ((decide ((↑s.data.toList.length : Int) > (4000 : Int))) == false), .b ((decide ((↑s.data.toList.length : Int) > (4000 : Int))) == false), .b ((decide ((↑s.data.toList.length : Int) > (4000 : Int))) == false)]) (by kernel_rfl) rfl rfl (vcs_nil) (vcs_cons (vc_b h8) (vcs_cons (vc_p hg) (vcs_cons (vc_b h8) (vcs_cons (vc_b h7) (vcs_cons (vc_b h7) (vcs_cons (vc_b h7) (vcs_cons (vc_p hg) (vcs_cons (vc_b h7) (vcs_cons (vc_b h7) (vcs_cons (vc_c h1) (vcs_cons (vc_p hg) (vcs_cons (vc_b h6) (vcs_cons (vc_b h5) (vcs_cons (vc_b h5) (vcs_cons (vc_b h5) (vcs_cons (vc_b h5) (vcs_cons (vc_b h5) (vcs_cons (vc_b h5) (vcs_cons (vc_b h4) (vcs_cons (vc_b h4) (vcs_cons (vc_b h4) (vcs_cons (vc_p hg) (vcs_cons (vc_b h4) (vcs_cons (vc_b h4) (vcs_cons (vc_c h3) (vcs_cons (vc_p hg) (vcs_cons (vc_b h2) (vcs_cons (vc_c h1) (vcs_cons (vc_p hg) (vcs_cons (vc_b h0) (vcs_cons (vc_b h0) (vcs_cons (vc_b h0) (vcs_cons (vc_b h0) vcs_nil)))))))))))))))))))))))))))))))))
set_option maxRecDepth 100000 in
theorem top_ok {B : Nat} {w0 : World} {s : ByteArray} {n : Int} (h0 : (decide ((↑s.data.toList.length : Int) > (4000 : Int))) = false) (h1 : (decide (s.data.toList.length ≤ (4294967280 : Nat) ∧ lnAt s = n ∧ lnCode s = (0 : Int))) = true) (h2 : (decide ((↑s.data.toList.length : Int) > (32768 : Int))) = false) (h3 : (n != n) = false) (hg : StableAt glob B ∧ glob w0) : Does Tryz.prog 1 [(0, .args B w0)] 80 [(0, .args B w0)] (.call 3 [.string s]) (.val (.bool true)) :=
  call_of mixed (conTN_holds n) [] [(0, false)] (d := [(0, .br false), (1, .br false), (2, .br false), (3, .br false), (5, .br true), (6, .br false), (7, .br true), (9, .br false), (10, .br false), (11, .br false), (12, .br false), (13, .br false)]) (n := 600) (c2 := 2) (L' := []) (L := [.p (StableAt glob B ∧ glob w0), .b ((n != n) == false), .b ((n != n) == false), .b ((n != n) == false), .b ((n != n) == false), .b ((n != n) == false), .b (decide (s.data.toList.length ≤ (4294967280 : Nat) ∧ lnAt s = n ∧ lnCode s = (0 : Int))), .p (StableAt glob B ∧ glob w0), .b ((decide ((↑s.data.toList.length : Int) > (32768 : Int))) == false), .b (decide (s.data.toList.length ≤ (4294967280 : Nat) ∧ lnAt s = n ∧ lnCode s = (0 : Int))), .p (StableAt glob B ∧ glob w0), .b ((decide ((↑s.data.toList.length : Int) > (4000 : Int))) == false), .b ((decide ((↑s.data.toList.length : Int) > (4000 : Int))) == false), .b ((decide ((↑s.data.toList.length : Int) > (4000 : Int))) == false), .b ((decide ((↑s.data.toList.length : Int) > (4000 : Int))) == false)]) (by kernel_rfl) rfl rfl (vcs_nil) (vcs_cons (vc_p hg) (vcs_cons (vc_b h3) (vcs_cons (vc_b h3) (vcs_cons (vc_b h3) (vcs_cons (vc_b h3) (vcs_cons (vc_b h3) (vcs_cons (vc_c h1) (vcs_cons (vc_p hg) (vcs_cons (vc_b h2) (vcs_cons (vc_c h1) (vcs_cons (vc_p hg) (vcs_cons (vc_b h0) (vcs_cons (vc_b h0) (vcs_cons (vc_b h0) (vcs_cons (vc_b h0) vcs_nil)))))))))))))))
theorem top_does {B : Nat} {w0 : World} (hg : StableAt glob B ∧ glob w0) {s : ByteArray} (hs : s.data.toList.length ≤ 4294967280) : Does Tryz.prog 1 [(0, .args B w0)] 80 [(0, .args B w0)] (.call 3 [.string s]) (.val (.bool true)) := by
  cases h0 : decide ((s.data.toList.length : Int) > (4000 : Int)) with
  | true =>
    cases h1 : decide ((s.data.toList.length : Int) ≤ (32768 : Int)) with
    | true => exact top_mid (n := 0) (c := 0) h0 h1 hg
    | false =>
      have h2 : decide ((s.data.toList.length : Int) > (32768 : Int)) = true := by
        rw [decide_eq_false_iff_not] at h1; rw [decide_eq_true_eq]; omega
      have hL : longB s = true := by unfold longB; rw [h2]; rfl
      have hA : lnAt s = 0 := by unfold lnAt; rw [hL, cond_true]
      have hC : lnCode s = 8 := by unfold lnCode; rw [hL, cond_true]
      exact top_long (n := 0) (c := 8) h0 h1 (decide_eq_true ⟨hs, hA, hC, by omega⟩) h2 rfl rfl hg
  | false =>
    have h2 : decide ((s.data.toList.length : Int) > (32768 : Int)) = false := by
      rw [decide_eq_false_iff_not] at h0 ⊢; omega
    have en : (lnAt s != lnAt s) = false := by rw [bne, beq_self_eq_true]; rfl
    have ec : (lnCode s != lnCode s) = false := by rw [bne, beq_self_eq_true]; rfl
    by_cases hc : lnCode s = 0
    · exact top_ok (n := lnAt s) h0 (decide_eq_true ⟨hs, rfl, hc⟩) h2 en hg
    · exact top_err (n := lnAt s) (c := lnCode s) h0 (decide_eq_true ⟨hs, rfl, rfl, hc⟩) h2 (decide_eq_true ⟨hs, rfl, rfl⟩) en ec (by rw [beq_eq_false_iff_ne.2 hc]; rfl) (beq_self_eq_true _) (beq_self_eq_true _) hg
/-- What the statement tells. -/
theorem top_gives {s : ByteArray} (hs : s.data.toList.length ≤ 4294967280) : GivesW Tryz.prog glob 3 [.string s] (.bool true) :=
  givesW_of_does (c1 := 80) (h1 := argsHeap) (fun w hw => top_does ⟨stab_at w hw, hw⟩ hs) (fun _ => rfl) rfl
end Go.Proofs.YtkmicbhnfochjaaGreatDoor
