/- Symbolic executor, part 39: a whole loop run at once, with less told of its end. No condition. -/
import Derived.Test.YtkmicbhnfochjaaGreatDoorMSxTab

namespace Go.Sx
variable {P : Program}
theorem loop_ren {ρ : Names} {c0 c1 c2 : Nat} {h0 h1 h2 : Heap} {code : Code} {T T2 Tf : List Value} {e : SExit} (hρ : ρ.ok c0 c1 = true) (h21 : c2 ≤ c1)
    (hb : Does P c0 h0 c2 h2 (.inLoop code T) (.out e T2)) (R : RenTo ρ c0 c1 h2 T2 h1 Tf) : Does P c0 h0 c1 h1 (.inLoop code T) (.out e Tf) := by
  have h01 : c0 ≤ c1 := Nat.le_trans hb.1 h21
  refine ⟨h01, fun r ow w hs hf a ha hd => LoopWp.mono (hb.2 r ow w hs (hf.sub (Nat.le_refl _) h21) a ha hd) fun e' a' w' ⟨q1, q2, r3, o3, q3, q4⟩ => ?_⟩
  obtain ⟨hq, _⟩ := q3.ren hρ h01 (Nat.le_refl _) h21 hf R.heap
  exact ⟨q1, q2, _, _, hq, R.tmps _ _ _ (fun n m h => ren_at hρ (Nat.le_refl _) r3 h) q4⟩
theorem loop_of (hm : P.follows .mixedOrders = true) {C : Contracts} (hC : Holds P C) (ρ : Names) {c0 c1 n : Nat} {code : Code} {T : List Value} {d : Advice} {h h' : Heap} {l : List (Nat × Value)} (ss : List (Nat × Bool)) {e : SExit} {len c2 : Nat} {L L' : List VC}
    (e0 : rOutM (nameOf ρ c0 c1) l ss h' (exF P C n (.inLoop code T) d (stOf c0 h)) = some (e, l.map (·.2), len, c2, h', L', L)) (hρ : Names.ok ρ c0 c1 = true) (hc : Nat.ble c2 c1 = true) (hV' : VCs L') (hV : VCs L) :
    Does P c0 h c1 h' (.inLoop code T) (.out e (mkT len 0 l)) := by
  obtain ⟨T2, h2, a, b⟩ := rOutM_does hm hC e0 hV' hV
  exact loop_ren hρ (Nat.le_of_ble_eq_true hc) a b
end Go.Sx
