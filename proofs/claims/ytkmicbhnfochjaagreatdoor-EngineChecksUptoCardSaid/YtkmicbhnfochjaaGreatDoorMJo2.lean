/- fault.Code of a code, and of nothing. No condition. -/
import Derived.Test.YtkmicbhnfochjaaGreatDoorMAs4
import Derived.Test.YtkmicbhnfochjaaGreatDoorMCon5

namespace Go.Proofs.YtkmicbhnfochjaaGreatDoor
open Go Go.RowKit Go.Extern.Stop Go.Stop Go.Extern
set_option maxRecDepth 100000 in
set_option maxHeartbeats 1000000 in
theorem code_walk (n : Int) (w : World) (hE : w.cell? ⟨0, 0, none⟩ = some (.iface 174 (.agg #[.pointer (some ⟨7, 24, none⟩)]))) :
    Calls Tryz.prog 8 #[.iface 28 (.int .i64 n)] w fun e w' => e = .returned (.int .i64 n) ∧ Sx.Old w w' := by
  have h0 : 0 < w.heap.size := by
    refine Nat.lt_of_not_le fun q => ?_
    have : w.heap[0]? = none := Array.getElem?_eq_none q
    simp [World.cell?, this] at hE
  have hA := as_code n w.heap.size (w.alloc (.cells #[.int .i64 0] 28)) (by rw [World.cell?_alloc_at _ _ _ _ rfl]; rfl) (World.frozen?_alloc_at _ _ _ _ rfl) (by rw [World.cell?_alloc_past _ _ _ h0]; exact hE)
  go_enter Tryz.func8, Tryz.ntmps8
  go_wp2_with (first
    | (go_at_call 17; refine hA.mono ?_; rintro e w' ⟨rfl, hc, ho, ht, hp, hs, hk⟩)
    | go_in)
  go_ret
  have hsz : (w.alloc (.cells #[.int .i64 0] 28)).heap.size = w.heap.size + 1 := by show (w.heap.push _).size = _; simp
  refine ⟨rfl, ho, ht, hp, by omega, fun k hk' => ?_⟩
  rw [hk k (by omega) (by omega)]
  show (w.heap.push _)[k]? = _
  simp [Array.getElem?_push, Nat.ne_of_lt hk']
theorem code_gives (n : Int) : Sx.GivesW Tryz.prog glob 8 [.iface 28 (.int .i64 n)] (.int .i64 n) := by
  intro r us w hw hu
  obtain ⟨us⟩ := us
  cases hu with
  | cons x t =>
    cases t
    cases x with
    | iface x =>
      cases x
      exact (code_walk n w hw.2).mono fun e w' ⟨he, ho⟩ => ⟨_, he, .int _ _, ho⟩
set_option maxRecDepth 100000 in
theorem code_walk_nil (w : World) : Calls Tryz.prog 8 #[.nilIface] w fun e w' => e = .returned (.int .i64 0) ∧ w' = w.alloc (.cells #[.int .i64 0] 28) := by
  go_enter Tryz.func8, Tryz.ntmps8
  go_wp2
  go_ret
  exact ⟨rfl, rfl⟩
theorem code_nil : Sx.Gives Tryz.prog 8 [.nilIface] (.int .i64 0) := by
  intro r us w hu
  obtain ⟨us⟩ := us
  cases hu with
  | cons x t =>
    cases t
    cases x
    refine (code_walk_nil w).mono fun e w' ⟨he, hw⟩ => ⟨_, he, .int _ _, ?_⟩
    subst hw
    exact ⟨rfl, rfl, rfl, by show _ ≤ (w.heap.push _).size; simp, fun k hk => by show (w.heap.push _)[k]? = _; simp [Array.getElem?_push, Nat.ne_of_lt hk]⟩
end Go.Proofs.YtkmicbhnfochjaaGreatDoor

namespace Go.Proofs.YtkmicbhnfochjaaGreatDoor
open Go Go.Sx Go.Eng
def joinS (ps : List ByteArray) (sep : ByteArray) : ByteArray := ⟨⟨Lib.join (ps.map (·.data.toList)) sep.data.toList⟩⟩
/-- What strings.Join reads. -/
def rowIn (l : List Value) (off len : Nat) : List Value := (l.drop off).take len
def joinX (n off len : Nat) (sep : ByteArray) : X ARes := X.bind (X.rd n) fun c => match c with
  | .cells l t => X.bind (X.emit (.p (t = 9 ∧ rowIn l off len = (strsOf (rowIn l off len)).map Value.string ∧ (rowIn l off len).length = len ∧ len ≤ 140737488355328 ∧
      (Lib.join ((strsOf (rowIn l off len)).map (·.data.toList)) sep.data.toList).length ≤ 140737488355328))) fun _ => X.pure (.val (.string (joinS (strsOf (rowIn l off len)) sep)))
  | _ => X.fail
def addJ (C : Contracts) (f : FuncId) : Contracts := fun t => match t with
  | .call k xs => match Nat.beq k f with
    | true => (match xs with
      | [.slice (some ⟨n, off, none⟩) len _, .string sep] => some (joinX n off len sep)
      | _ => none)
    | false => C (.call k xs)
  | t => C t
def onCode : List Value → Option (Bool × Value)
  | [.iface 28 (.int .i64 n)] => some (true, .int .i64 n)
  | _ => none
def onNil : List Value → Option (Bool × Value)
  | [.nilIface] => some (true, .int .i64 0)
  | _ => none
def onItoa : List Value → Option (Bool × Value)
  | [.int .i64 (.ofNat n)] => some (Nat.blt n 10, .string ⟨⟨[(48 + n).toUInt8]⟩⟩)
  | _ => none
/-- fault.Code: of nothing, or over old memory. -/
def codeC (C : Contracts) : Contracts := fun t => match t with
  | .call 8 [.nilIface] => some (X.pure (.val (.int .i64 0)))
  | .call 8 [.iface 28 (.int .i64 n)] => some (worldX glob true (.int .i64 n))
  | t => C t
noncomputable def conE6 : Contracts := codeC (addK (addJ conE5 150) 152 onItoa)
end Go.Proofs.YtkmicbhnfochjaaGreatDoor

namespace Go.Proofs.YtkmicbhnfochjaaGreatDoor
open Go Go.Sx Go.Eng
theorem Local.joinX (n off len : Nat) (sep : ByteArray) : Local (joinX n off len sep) := by
  unfold YtkmicbhnfochjaaGreatDoor.joinX
  refine Local.bind (Local.rd _) fun c => ?_
  split
  · exact Local.bind (Local.emit _) fun _ => Local.pure _
  · exact Local.fail
theorem strs_inv {r : Env} : ∀ {ps : List ByteArray} {us : List Value}, RelL r (ps.map Value.string) us → us = ps.map Value.string
  | [], _, h => by cases h; rfl
  | p :: ps, _, h => by cases h with | cons x t => cases x; rw [strs_inv t]; rfl
theorem join_snd {n off len k : Nat} {sep : ByteArray} : TaskSnd Tryz.prog (joinX n off len sep) (.call 150 [.slice (some ⟨n, off, none⟩) len k, .string sep]) := by
  intro d s res s' h
  unfold joinX at h
  obtain ⟨c, s1, h1, h2⟩ := bind_some h
  obtain ⟨g1, c1⟩ := calm_rd h1
  cases c with
  | cells l t =>
    simp only at h2
    obtain ⟨_, s2, h3, h4⟩ := bind_some h2
    obtain ⟨c2, e2⟩ := calm_emit h3
    obtain ⟨rfl, rfl⟩ := pure_some h4
    have cm := c1.trans c2
    refine ⟨cm.V, fun hV r ow w hs _ us hu => ?_⟩
    obtain ⟨rfl, er, el, hN, hJ⟩ := e2 hV
    obtain ⟨us⟩ := us
    cases hu with
    | cons x1 t1 => cases t1 with
      | cons x2 t2 =>
        cases t2; cases x2
        cases x1 with
        | slice hn ho hl h0 hh =>
          rename_i b off' cc
          obtain ⟨b', cs, q1, q2, q3, q4, q5, q6⟩ := hs.chunk n _ g1
          obtain rfl : b = b' := Option.some.inj (hn.symm.trans q1)
          generalize hps : strsOf (rowIn l off len) = ps at er hJ
          have hpl : ps.length = len := by rw [← el, er, List.length_map]
          have hcells : ∀ (j : Nat) x, ps[j]? = some x → w.cell? ⟨b, off' + j, none⟩ = some (.string x) := by
            intro j x hj
            have hjl : j < len := by rw [← hpl]; exact (List.getElem?_eq_some_iff.1 hj).1
            have hoff : off' = off := ho.resolve_right (by omega)
            subst hoff
            have h5 : l[off' + j]? = some (.string x) := by
              have : (rowIn l off' len)[j]? = some (.string x) := by rw [er, List.getElem?_map, hj]; rfl
              unfold rowIn at this
              rw [List.getElem?_take_of_lt hjl, List.getElem?_drop] at this
              exact this
            obtain ⟨u, h6, h7⟩ := q4.get _ _ h5
            cases h7
            have h8 : cs.toList[off' + j]? = some (.string x) := by
              rw [List.getElem?_take] at h6
              split at h6
              · exact h6
              · cases h6
            rw [Array.getElem?_toList] at h8
            simp [World.cell?, q3, h8]
          have hb : b < w.heap.size := hs.bound b n q2
          have key := Tryz.strings_Join b off' cc ps sep w hcells hb (by omega) (by omega) hJ
          rw [hpl] at key
          refine Calls.mono key fun e w' ⟨he, hw⟩ => ⟨r, ow, _, he, Post.of_st rfl cm.c cm.h (Post.old hs ⟨hw.os, hw.tape, hw.output, hw.size, hw.block⟩), ?_⟩
          have : joinS ps sep = ⟨(Lib.join (ps.map (·.data.toList)) sep.data.toList).toArray⟩ := rfl
          rw [this]
          exact .string _
  | _ => simp [X.fail] at h2
theorem addJ_holds {C : Contracts} (h : Holds Tryz.prog C) : Holds Tryz.prog (addJ C 150) := by
  have key : ∀ t x, addJ C 150 t = some x → C t = some x ∨ ∃ n off len k sep, t = .call 150 [.slice (some ⟨n, off, none⟩) len k, .string sep] ∧ x = joinX n off len sep := by
    intro t x e
    unfold addJ at e
    split at e
    · rename_i k xs
      cases hb : Nat.beq k 150 with
      | true =>
        simp only [hb] at e
        obtain rfl := Nat.eq_of_beq_eq_true hb
        split at e
        · exact .inr ⟨_, _, _, _, _, rfl, (Option.some.inj e).symm⟩
        · cases e
      | false =>
        simp only [hb] at e
        exact .inl e
    · exact .inl e
  refine ⟨fun t x e => ?_, fun t x e => ?_⟩
  · rcases key t x e with q | ⟨n, off, len, k, sep, rfl, rfl⟩
    · exact h.loc t x q
    · exact Local.joinX _ _ _ _
  · rcases key t x e with q | ⟨n, off, len, k, sep, rfl, rfl⟩
    · exact h.snd t x q
    · exact join_snd
theorem codeC_holds {C : Contracts} (h : Holds Tryz.prog C) : Holds Tryz.prog (codeC C) := by
  refine ⟨fun t x e => ?_, fun t x e => ?_⟩
  · unfold codeC at e
    split at e
    · cases e; exact Local.pure _
    · cases e; exact Local.worldX _ _ _
    · exact h.loc t x e
  · unfold codeC at e
    split at e
    · cases e; exact code_nil.snd
    · cases e; exact worldX_snd fun _ => code_gives _
    · exact h.snd t x e
theorem dig_all : (List.range 10).all (fun n => Lib.decDigits n == [(48 + n).toUInt8]) = true := by kernel_rfl
theorem itoa_gives (n : Nat) (h : n < 10) : Gives Tryz.prog 152 [.int .i64 (.ofNat n)] (.string ⟨⟨[(48 + n).toUInt8]⟩⟩) := by
  intro r us w hu
  obtain ⟨us⟩ := us
  cases hu with
  | cons x t =>
    cases t; cases x
    refine (Tryz.strconv_Itoa_small n (by omega) w).mono fun e w' ⟨he, hw⟩ => ⟨_, he, ?_, by subst hw; exact Old.refl _⟩
    have : (⟨(Lib.decDigits n).toArray⟩ : ByteArray) = ⟨⟨[(48 + n).toUInt8]⟩⟩ := by
      have e : Lib.decDigits n = [(48 + n).toUInt8] := by
        have := List.all_eq_true.1 dig_all n (List.mem_range.2 h)
        exact eq_of_beq this
      rw [e]
    rw [this]
    exact .string _
theorem conE6_holds : Holds Tryz.prog conE6 := by
  refine codeC_holds ((addJ_holds conE5_holds).addK ?_)
  intro xs b v h hb
  unfold onItoa at h
  split at h
  · cases h
    exact itoa_gives _ (Nat.le_of_ble_eq_true hb)
  · cases h
end Go.Proofs.YtkmicbhnfochjaaGreatDoor
