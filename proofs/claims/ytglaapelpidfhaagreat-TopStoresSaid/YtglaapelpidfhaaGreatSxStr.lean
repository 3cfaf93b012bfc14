/- Symbolic executor, part 28: contracts of calls of two texts that give a number. No condition. -/
import Derived.Test.YtglaapelpidfhaaGreatSxOn
namespace Go.Sx
variable {P : Program}
/-- What such a call comes to, if the first text is not longer than any machine has room for. -/
def strX (a : ByteArray) (v : Int) : X ARes := X.bind (chk (Nat.ble a.data.toList.length 4294967295)) fun _ => X.pure (.val (.int .i64 v))
theorem strX_snd {f : FuncId} {a b : ByteArray} {v : Int} (hg : (a.data.toList.length : Int) < 4294967296 → Gives P f [.string a, .string b] (.int .i64 v)) : TaskSnd P (strX a v) (.call f [.string a, .string b]) := by
  intro d s res s' h
  unfold strX at h
  obtain ⟨_, s1, h1, h2⟩ := bind_some h
  obtain ⟨cm, e⟩ := calm_chk h1
  obtain ⟨rfl, rfl⟩ := pure_some h2
  refine ⟨cm.V, fun hV r ow w hs _ us hu => ?_⟩
  exact Calls.mono (hg (by have := Nat.le_of_ble_eq_true (e hV); omega) r us w hu) fun e' w' ⟨u, he, hv, ho⟩ => ⟨r, ow, u, he, Post.of_st rfl cm.c cm.h (Post.old hs ho), hv⟩
def addS (C : Contracts) (f : FuncId) (g : ByteArray → ByteArray → Int) : Contracts := fun t => match t with
  | .call k xs => match Nat.beq k f with
    | true => (match xs with
      | [.string a, .string b] => some (strX a (g a b))
      | _ => none)
    | false => C (.call k xs)
  | t => C t
theorem Holds.addS {C : Contracts} (h : Holds P C) {f : FuncId} {g : ByteArray → ByteArray → Int} (hg : ∀ a b : ByteArray, (a.data.toList.length : Int) < 4294967296 → Gives P f [.string a, .string b] (.int .i64 (g a b))) : Holds P (addS C f g) := by
  have key : ∀ t x, Sx.addS C f g t = some x → C t = some x ∨ ∃ a b, t = .call f [.string a, .string b] ∧ x = strX a (g a b) := by
    intro t x e
    unfold Sx.addS at e
    split at e
    · rename_i k xs
      cases hb : Nat.beq k f with
      | true =>
        simp only [hb] at e
        obtain rfl := Nat.eq_of_beq_eq_true hb
        split at e
        · cases e
          exact .inr ⟨_, _, rfl, rfl⟩
        · cases e
      | false =>
        simp only [hb] at e
        exact .inl e
    · exact .inl e
  refine ⟨fun t x e => ?_, fun t x e => ?_⟩
  · rcases key t x e with q | ⟨a, b, rfl, rfl⟩
    · exact h.loc t x q
    · exact Local.bind (Local.chk _) fun _ => Local.pure _
  · rcases key t x e with q | ⟨a, b, rfl, rfl⟩
    · exact h.snd t x q
    · exact strX_snd (hg a b)
end Go.Sx
