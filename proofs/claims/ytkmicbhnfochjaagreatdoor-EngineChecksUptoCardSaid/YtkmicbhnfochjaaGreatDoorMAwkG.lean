/- engine.awake is true, wherever the program's own table lies. No condition. -/
import Derived.Test.YtkmicbhnfochjaaGreatDoorMAwkB
import Derived.Test.YtkmicbhnfochjaaGreatDoorMEnl6

namespace Go.Proofs.YtkmicbhnfochjaaGreatDoor
open Go Go.Sx Go.Eng
theorem vc_p {p : Prop} (h : p) : VC.ok (.p p) := h
theorem awake_gives : GivesW Tryz.prog glob 4 [] (.bool true) := by
  intro r us w hw hu
  have hg : StableAt glob w.heap.size ∧ glob w := ⟨stab_at w hw, hw⟩
  obtain ⟨c1, h1, hd, h0⟩ := vFar_does mixed conE6_holds (awk_run w.heap.size w) (vcs_cons (vc_p awk_loop) (vcs_cons (vc_p hg) (vcs_cons (vc_p hg) (vcs_cons (vc_p hg) (vcs_cons (vc_p hg) vcs_nil)))))
  have hus : us.toList = [] := List.eq_nil_of_length_eq_zero hu.length.symm
  have hu' : RelL argsEnv [] us.toList := by rw [hus]; exact .nil
  exact Calls.mono (args_calls hd h0 hu') fun e w' ⟨r', u, he, hr, ho⟩ => ⟨u, he, by cases hr; exact .bool _, ho⟩
end Go.Proofs.YtkmicbhnfochjaaGreatDoor
