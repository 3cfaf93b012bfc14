/- Symbolic executor, part 32: contracts of calls that read two rows of strings, and of calls that make a row of strings. No condition. -/
import Derived.Test.YtkmicbhnfochjaaGreatDoorMSxLib
import Derived.Laws.World
import Derived.Lib.SplitLaws

namespace Go.Sx
variable {P : Program}

def strOf : Value → ByteArray
  | .string s => s
  | _ => ⟨⟨[]⟩⟩
def strsOf (l : List Value) : List ByteArray := l.map strOf
theorem strs_map (ps : List ByteArray) : strsOf (ps.map Value.string) = ps := by
  unfold strsOf
  rw [List.map_map]
  exact (List.map_congr_left (g := id) fun _ _ => rfl).trans (List.map_id ps)
theorem bare_ren {r r2 : Env} {v u : Value} {f : Nat} (h : bare f v = true) (hr : Rel r v u) : Rel r2 v u := by
  rw [bare_eq f v u h hr]; exact bare_rel f v h
theorem eachL_bare {r r2 : Env} {l us : List Value} {f : Nat} (h : eachL (bare f) l = true) (hr : RelL r l us) : RelL r2 l us := by
  rw [eachL_eq (bare_eq f) h hr]; exact eachL_rel (bare_rel f) h
/-- A call of two rows of strings that reads alone. -/
def rows2X (n m l1 l2 : Nat) (q : List ByteArray → List ByteArray → Prop) (g : List ByteArray → List ByteArray → Value) : X ARes :=
  X.bind (X.rd n) fun a => match a with
    | .cells a t => X.bind (X.rd m) fun b => match b with
      | .cells b t' => X.bind (X.emit (.p (n ≠ m ∧ t = 9 ∧ t' = 9 ∧ a = (strsOf a).map Value.string ∧ b = (strsOf b).map Value.string ∧ l1 = a.length ∧ l2 = b.length ∧ q (strsOf a) (strsOf b)))) fun _ => X.pure (.val (g (strsOf a) (strsOf b)))
      | _ => X.fail
    | _ => X.fail
theorem Local.rows2X (n m l1 l2 : Nat) (q : List ByteArray → List ByteArray → Prop) (g : List ByteArray → List ByteArray → Value) : Local (rows2X n m l1 l2 q g) := by
  unfold Sx.rows2X
  refine Local.bind (Local.rd _) fun a => ?_
  split
  · refine Local.bind (Local.rd _) fun b => ?_
    split
    · exact Local.bind (Local.emit _) fun _ => Local.pure _
    · exact Local.fail
  · exact Local.fail
/-- A post without new names holds at every counter. -/
theorem Post.still {r r' : Env} {ow ow' : Nat → Option Nat} {w w' : World} {c : Nat} {h : Heap} {s s' : St} (hp : Post P r ow w (stOf c h) r' ow' w' (stOf c h)) (hc : s'.c = s.c) (hh : s'.h = h) : Post P r ow w s r' ow' w' s' :=
  ⟨hp.le, by rw [hh]; exact hp.sat, hp.frame, ⟨fun n e => .inl ((hp.new.1 n e).resolve_right fun q => absurd q.2 (Nat.not_lt.2 q.1)), fun n e => .inl ((hp.new.2 n e).resolve_right fun q => absurd q.2 (Nat.not_lt.2 q.1))⟩, by omega,
    fun b n e => .inl ((hp.own b n e).resolve_right fun q => absurd q.2 (Nat.not_lt.2 q.1))⟩
def rowH2 (ps ks : List ByteArray) : Heap := [(0, .cells (ps.map Value.string) 9), (1, .cells (ks.map Value.string) 9)]
theorem rows2_snd {f : FuncId} {n m l1 l2 k1 k2 : Nat} {rest : List Value} {q : List ByteArray → List ByteArray → Prop} {g : List ByteArray → List ByteArray → Value}
    (hd : ∀ ps ks, q ps ks → Does P 2 (rowH2 ps ks) 2 (rowH2 ps ks) (.call f (.slice (some ⟨0, 0, none⟩) ps.length 1 :: .slice (some ⟨1, 0, none⟩) ks.length 1 :: rest)) (.val (g ps ks)))
    (hrest : eachL (bare 9) rest = true) (hg : ∀ ps ks, bare 9 (g ps ks) = true) : TaskSnd P (rows2X n m l1 l2 q g) (.call f (.slice (some ⟨n, 0, none⟩) l1 k1 :: .slice (some ⟨m, 0, none⟩) l2 k2 :: rest)) := by
  intro d s res s' h
  unfold rows2X at h
  obtain ⟨ca, s1, h1, h2⟩ := bind_some h
  obtain ⟨g1, c1⟩ := calm_rd h1
  cases ca with
  | cells a t =>
    simp only at h2
    obtain ⟨cb, s2, h3, h4⟩ := bind_some h2
    obtain ⟨g2, c2⟩ := calm_rd h3
    cases cb with
    | cells b t' =>
      simp only at h4
      obtain ⟨_, s3, h5, h6⟩ := bind_some h4
      obtain ⟨c3, e3⟩ := calm_emit h5
      obtain ⟨rfl, rfl⟩ := pure_some h6
      have cm := (c1.trans c2).trans c3
      refine ⟨cm.V, fun hV r ow w hs hf us hu => ?_⟩
      obtain ⟨hnm, rfl, rfl, ea, eb, e1, e2, hq⟩ := e3 hV
      rw [c1.h] at g2
      have hat : ∀ (i : Nat) (x : Chunk), s.h.get i = some x → i = n ∧ x = .cells a 9 ∨ i = m ∧ x = .cells b 9 ∨ i ≠ n ∧ i ≠ m := fun i x hx => by
        by_cases q1 : i = n
        · subst q1; rw [g1] at hx; cases hx; exact .inl ⟨rfl, rfl⟩
        · by_cases q2 : i = m
          · subst q2; rw [g2] at hx; cases hx; exact .inr (.inl ⟨rfl, rfl⟩)
          · exact .inr (.inr ⟨q1, q2⟩)
      have b0 : back [n, m] n = some 0 := by simp [back, posFrom, nbeq]
      have b1 : back [n, m] m = some 1 := by simp [back, posFrom, nbeq, hnm]
      have key := does_at (P := P) (l := [n, m]) (c := s.c) (c1 := s.c) (H := s.h) (H' := s.h)
        (args := .slice (some ⟨n, 0, none⟩) l1 k1 :: .slice (some ⟨m, 0, none⟩) l2 k2 :: rest) (v := g (strsOf a) (strsOf b)) (hd (strsOf a) (strsOf b) hq)
        (by
          have h3' : hasN n [m] = false := by
            cases hh : hasN n [m] with
            | false => rfl
            | true => have := hasN_mem.1 hh; simp at this; exact absurd this hnm
          show (!hasN n [m] && (!hasN m [] && true)) = true
          rw [h3']
          rfl)
        (fun i _ q => by simp at q; omega)
        (by simp)
        (by
          intro i x hx
          simp only [rowH2, Heap.get, nbeq] at hx
          by_cases i0 : (0 : Nat) = i
          · subst i0
            simp only [decide_true, if_true, Option.some.injEq] at hx
            subst hx
            exact ⟨n, .cells a 9, b0, g1, by rw [ea, strs_map]; exact into_str⟩
          · by_cases i1 : (1 : Nat) = i
            · subst i1
              simp at hx
              subst hx
              exact ⟨m, .cells b 9, b1, g2, by rw [eb, strs_map]; exact into_str⟩
            · simp [i0, i1] at hx)
        (by
          intro r r2 us hb hu
          cases hu with
          | cons x1 t1 =>
            cases t1 with
            | cons x2 t2 =>
              refine .cons ?_ (.cons ?_ (eachL_bare hrest t2))
              · cases x1 with
                | slice hn ho hl h0 h2 =>
                  have e : (strsOf a).length = l1 := by rw [e1]; simp [strsOf]
                  rw [e]
                  exact .slice ((hb n 0 b0).1.trans hn) ho hl (fun q => by cases q) (fun q => by cases q)
              · cases x2 with
                | slice hn ho hl h0 h2 =>
                  have e : (strsOf b).length = l2 := by rw [e2]; simp [strsOf]
                  rw [e]
                  exact .slice ((hb m 1 b1).1.trans hn) ho hl (fun q => by cases q) (fun q => by cases q))
        (by
          intro i x hx
          have ha' : ChunkInto ((Chunk.cells ((strsOf a).map Value.string) 9).ren (fwd [n, m] (s.c) 2)) (.cells a 9) := by
            have := into_str (ps := strsOf a) (t := 9) (nm := fwd [n, m] (s.c) 2)
            rwa [← ea] at this ⊢
          have hb' : ChunkInto ((Chunk.cells ((strsOf b).map Value.string) 9).ren (fwd [n, m] (s.c) 2)) (.cells b 9) := by
            have := into_str (ps := strsOf b) (t := 9) (nm := fwd [n, m] (s.c) 2)
            rwa [← eb] at this ⊢
          rcases hat i x hx with ⟨rfl, rfl⟩ | ⟨rfl, rfl⟩ | ⟨q1, q2⟩
          · exact .inl ⟨0, _, by simp [rowH2, Heap.get], rfl, ha'⟩
          · exact .inl ⟨1, _, by simp [rowH2, Heap.get], rfl, hb'⟩
          · exact .inr ⟨by simp [back, posFrom, nbeq, Ne.symm q1, Ne.symm q2], (fun q => by simp at q; omega), hx⟩)
        (fun r r2 u hb hr => bare_ren (hg _ _) hr)
      have := key.2 r ow w hs (fun i h1 h2 => absurd h2 (Nat.not_lt.2 h1)) us hu
      exact Calls.mono this fun e w' ⟨r', ow', u, he, hp, hr⟩ => ⟨r', ow', u, he, hp.still cm.c cm.h, hr⟩
    | _ => simp [X.fail] at h4
  | _ => simp [X.fail] at h2

/-- Some names go by. -/
def skipX (k : Nat) : X Unit := fun _ s => some ((), { s with c := s.c + k })
theorem Local.skipX (k : Nat) : Local (skipX k) := by
  intro d s a s' h
  simp only [Sx.skipX, Option.some.injEq, Prod.mk.injEq] at h
  obtain ⟨_, rfl⟩ := h
  exact ⟨Nat.le_add_right _ _, [], [], [], rfl, rfl, rfl, fun _ _ => rfl, fun s2 hc hk _ => ⟨s2.h, by simp [Sx.skipX, ← hc, ← hk], by simp, fun _ _ => rfl⟩⟩
theorem skip_some {k : Nat} {d : Advice} {s s' : St} {u : Unit} (h : skipX k d s = some (u, s')) : s' = { s with c := s.c + k } := by
  simp only [skipX, Option.some.injEq, Prod.mk.injEq] at h
  exact h.2.symm
theorem sheds_self {c c' : Nat} {h : Heap} (hb : namesBelow c h = true) (ha : ∀ n x, h.get n = some x → x.away c c' = true) : Sheds P c c' h h := by
  intro n x hn
  have hi : inside c c' n = false := by
    cases hi : inside c c' n with
    | false => rfl
    | true =>
      have := (inside_iff.1 hi).1
      have := namesBelow_get hb hn
      omega
  exact ⟨hi, hn, Chunk.away_ok hi (ha n x hn)⟩
/-- A call of a row of strings that reads alone. -/
def rows1X (n l1 k : Nat) (q : List ByteArray → Prop) (g : List ByteArray → Value) : X ARes :=
  X.bind (X.rd n) fun a => match a with
    | .cells a t => X.bind (X.emit (.p (t = 9 ∧ a = (strsOf a).map Value.string ∧ l1 = a.length ∧ q (strsOf a)))) fun _ => X.bind (skipX k) fun _ => X.pure (.val (g (strsOf a)))
    | _ => X.fail
theorem Local.rows1X (n l1 k : Nat) (q : List ByteArray → Prop) (g : List ByteArray → Value) : Local (rows1X n l1 k q g) := by
  unfold Sx.rows1X
  refine Local.bind (Local.rd _) fun a => ?_
  split
  · exact Local.bind (Local.emit _) fun _ => Local.bind (Local.skipX _) fun _ => Local.pure _
  · exact Local.fail
def rowH1 (ps : List ByteArray) : Heap := [(0, .cells (ps.map Value.string) 9)]
theorem rows1_snd {f : FuncId} {n l1 k1 k : Nat} {rest : List Value} {q : List ByteArray → Prop} {g : List ByteArray → Value}
    (hd : ∀ ps, q ps → Does P 1 (rowH1 ps) (1 + k) (rowH1 ps) (.call f (.slice (some ⟨0, 0, none⟩) ps.length 1 :: rest)) (.val (g ps)))
    (hrest : eachL (bare 9) rest = true) (hg : ∀ ps, bare 9 (g ps) = true) : TaskSnd P (rows1X n l1 k q g) (.call f (.slice (some ⟨n, 0, none⟩) l1 k1 :: rest)) := by
  intro d s res s' h
  unfold rows1X at h
  obtain ⟨ca, s1, h1, h2⟩ := bind_some h
  obtain ⟨g1, c1⟩ := calm_rd h1
  cases ca with
  | cells a t =>
    simp only at h2
    obtain ⟨_, s3, h5, h6⟩ := bind_some h2
    obtain ⟨c3, e3⟩ := calm_emit h5
    obtain ⟨_, s4, h7, h8⟩ := bind_some h6
    have e4 := skip_some h7
    obtain ⟨rfl, rfl⟩ := pure_some h8
    have cm := c1.trans c3
    refine ⟨fun hV => cm.V (by rw [e4] at hV; exact hV), fun hV r ow w hs hf us hu => ?_⟩
    have hV3 : VCs s3.V := by rw [e4] at hV; exact hV
    obtain ⟨rfl, ea, e1, hq⟩ := e3 hV3
    have hc4 : s4.c = s.c + k := by rw [e4]; show s3.c + k = _; rw [cm.c]
    have hh4 : s4.h = s.h := by rw [e4]; exact cm.h
    have b0 : back [n] n = some 0 := by simp [back, posFrom, nbeq]
    have hsat := at_sat (P := P) (l := [n]) (c := s.c) (h0 := rowH1 (strsOf a)) hs (by
        intro i x hx
        simp only [rowH1, Heap.get, nbeq] at hx
        by_cases i0 : (0 : Nat) = i
        · subst i0
          simp only [decide_true, if_true, Option.some.injEq] at hx
          subst hx
          exact ⟨n, .cells a 9, b0, g1, by rw [ea, strs_map]; exact into_str⟩
        · simp [i0] at hx)
    have hfr : Fresh (r.at [n] s.c) 1 (1 + k) := fun i h1 h2 => by
      have e := fwdN_high (l := [n]) (c := s.c) (i := i) (by simpa using h1)
      simp only [List.length_singleton] at e
      simp only [Env.at, e]
      exact hf _ (by omega) (by omega)
    have hua : RelL (r.at [n] s.c) (.slice (some ⟨0, 0, none⟩) (strsOf a).length 1 :: rest) us.toList := by
      revert hu
      generalize us.toList = us
      intro hu
      cases hu with
      | cons x1 t1 =>
        refine .cons ?_ (eachL_bare hrest t1)
        cases x1 with
        | slice hn ho hl h0 h2 =>
          have e : (strsOf a).length = l1 := by rw [e1]; simp [strsOf]
          rw [e]
          exact .slice (by simp only [Env.at, fwdN_back (c := s.c) b0]; exact hn) ho hl (fun q => by cases q) (fun q => by cases q)
    refine Calls.mono ((hd (strsOf a) hq).2 _ _ w hsat hfr us hua) fun e w' ⟨r', ow', u, he, hp, hr⟩ => ?_
    have hsh := sheds_self (P := P) (c := 1) (c' := 1 + k) (h := rowH1 (strsOf a)) rfl (fun i x hx => by
      simp only [rowH1, Heap.get, nbeq] at hx
      by_cases i0 : (0 : Nat) = i
      · subst i0
        simp only [decide_true, if_true, Option.some.injEq] at hx
        subst hx
        show allL (away 9 1 (1 + k)) ((strsOf a).map Value.string) = true
        induction strsOf a with
        | nil => rfl
        | cons y ys ih => show (true && _) = true; rw [Bool.true_and]; exact ih
      · simp [i0] at hx)
    obtain ⟨hp2, _⟩ := hp.shed hfr hsh
    obtain ⟨hq2, _⟩ := at_post (P := P) (l := [n]) (c := s.c) (k1 := 1) (H := s.h) (H' := s.h) (by simp [namesOk, hasN]) (fun i _ q => by simp at q; omega) (by simp) hs (fun i h1 h2 => by simp at h2; omega) hp2
      (by
        intro i x hx
        have ha' : ChunkInto ((Chunk.cells ((strsOf a).map Value.string) 9).ren (fwd [n] s.c 1)) (.cells a 9) := by
          have := into_str (ps := strsOf a) (t := 9) (nm := fwd [n] s.c 1)
          rwa [← ea] at this ⊢
        by_cases e : i = n
        · subst e
          rw [g1] at hx; cases hx
          exact .inl ⟨0, _, by simp [rowH1, Heap.get], rfl, ha'⟩
        · exact .inr ⟨by simp [back, posFrom, nbeq, Ne.symm e], (fun q => by simp at q; omega), hx⟩)
    have hst := hq2.still (s := s) (s' := s) rfl rfl
    refine ⟨_, _, u, he, ⟨hst.le, by rw [hh4]; exact hst.sat, hst.frame, ⟨fun i q => .inl ((hst.new.1 i q).resolve_right fun z => absurd z.2 (Nat.not_lt.2 z.1)), fun i q => .inl ((hst.new.2 i q).resolve_right fun z => absurd z.2 (Nat.not_lt.2 z.1))⟩, by omega,
      fun b i q => .inl ((hst.own b i q).resolve_right fun z => absurd z.2 (Nat.not_lt.2 z.1))⟩, bare_ren (hg _) hr⟩
  | _ => simp [X.fail] at h2
/-- A row, and nothing behind it. -/
def addR1 (C : Contracts) (f : FuncId) (k : Nat) (q : List ByteArray → Prop) (g : List ByteArray → Value) : Contracts := fun t => match t with
  | .call j xs => match Nat.beq j f with
    | true => (match xs with
      | [.slice (some ⟨n, 0, none⟩) l1 _] => some (rows1X n l1 k q g)
      | _ => none)
    | false => C (.call j xs)
  | t => C t
theorem Holds.addR1 {C : Contracts} (h : Holds P C) {f : FuncId} {k : Nat} {q : List ByteArray → Prop} {g : List ByteArray → Value}
    (hd : ∀ ps, q ps → Does P 1 (rowH1 ps) (1 + k) (rowH1 ps) (.call f [.slice (some ⟨0, 0, none⟩) ps.length 1]) (.val (g ps)))
    (hg : ∀ ps, bare 9 (g ps) = true) : Holds P (addR1 C f k q g) := by
  have key : ∀ t x, Sx.addR1 C f k q g t = some x → C t = some x ∨ ∃ n l1 k1, t = .call f [.slice (some ⟨n, 0, none⟩) l1 k1] ∧ x = rows1X n l1 k q g := by
    intro t x e
    unfold Sx.addR1 at e
    split at e
    · rename_i j xs
      cases hb : Nat.beq j f with
      | true =>
        simp only [hb] at e
        obtain rfl := Nat.eq_of_beq_eq_true hb
        split at e
        · rename_i n l1 k1
          exact .inr ⟨n, l1, k1, rfl, (Option.some.inj e).symm⟩
        · cases e
      | false =>
        simp only [hb] at e
        exact .inl e
    · exact .inl e
  refine ⟨fun t x e => ?_, fun t x e => ?_⟩
  · rcases key t x e with q | ⟨n, l1, k1, rfl, rfl⟩
    · exact h.loc t x q
    · exact Local.rows1X _ _ _ _ _
  · rcases key t x e with q | ⟨n, l1, k1, rfl, rfl⟩
    · exact h.snd t x q
    · exact rows1_snd (rest := []) hd rfl hg

/-- Two rows and a number behind them. -/
def addR2 (C : Contracts) (f : FuncId) (q : Int → List ByteArray → List ByteArray → Prop) (g : Int → List ByteArray → List ByteArray → Value) : Contracts := fun t => match t with
  | .call k xs => match Nat.beq k f with
    | true => (match xs with
      | [.slice (some ⟨n, 0, none⟩) l1 _, .slice (some ⟨m, 0, none⟩) l2 _, .int .i64 x] => some (rows2X n m l1 l2 (q x) (g x))
      | _ => none)
    | false => C (.call k xs)
  | t => C t
theorem Holds.addR2 {C : Contracts} (h : Holds P C) {f : FuncId} {q : Int → List ByteArray → List ByteArray → Prop} {g : Int → List ByteArray → List ByteArray → Value}
    (hd : ∀ x ps ks, q x ps ks → Does P 2 (rowH2 ps ks) 2 (rowH2 ps ks) (.call f [.slice (some ⟨0, 0, none⟩) ps.length 1, .slice (some ⟨1, 0, none⟩) ks.length 1, .int .i64 x]) (.val (g x ps ks)))
    (hg : ∀ x ps ks, bare 9 (g x ps ks) = true) : Holds P (addR2 C f q g) := by
  have key : ∀ t x, Sx.addR2 C f q g t = some x → C t = some x ∨ ∃ n m l1 l2 k1 k2 y, t = .call f [.slice (some ⟨n, 0, none⟩) l1 k1, .slice (some ⟨m, 0, none⟩) l2 k2, .int .i64 y] ∧ x = rows2X n m l1 l2 (q y) (g y) := by
    intro t x e
    unfold Sx.addR2 at e
    split at e
    · rename_i k xs
      cases hb : Nat.beq k f with
      | true =>
        simp only [hb] at e
        obtain rfl := Nat.eq_of_beq_eq_true hb
        split at e
        · rename_i n l1 k1 m l2 k2 y
          exact .inr ⟨n, m, l1, l2, k1, k2, y, rfl, (Option.some.inj e).symm⟩
        · cases e
      | false =>
        simp only [hb] at e
        exact .inl e
    · exact .inl e
  refine ⟨fun t x e => ?_, fun t x e => ?_⟩
  · rcases key t x e with q | ⟨n, m, l1, l2, k1, k2, y, rfl, rfl⟩
    · exact h.loc t x q
    · exact Local.rows2X _ _ _ _ _ _
  · rcases key t x e with q | ⟨n, m, l1, l2, k1, k2, y, rfl, rfl⟩
    · exact h.snd t x q
    · exact rows2_snd (rest := [.int .i64 y]) (fun ps ks hq => hd y ps ks hq) rfl (fun ps ks => hg y ps ks)

/-- What holds of a world by its first blocks alone. -/
def StableAt (φ : World → Prop) (B : Nat) : Prop := ∀ w w' : World, (∀ b, b < B → w'.heap[b]? = w.heap[b]?) → φ w → φ w'
theorem StableAt.true (B : Nat) : StableAt (fun _ => True) B := fun _ _ _ h => h
/-- A call that gives a value, in worlds of which something is known. -/
def GivesW (P : Program) (φ : World → Prop) (f : FuncId) (args : List Value) (v : Value) : Prop :=
  ∀ (r : Env) (us : Array Value) (w : World), φ w → RelL r args us.toList → Calls P f us w fun e w' => ∃ u, e = .returned u ∧ Rel r v u ∧ Old w w'
/-- Such a call, the old memory under name 0. -/
def worldX (φ : World → Prop) (b : Bool) (v : Value) : X ARes := X.bind (X.rd 0) fun c => match c with
  | .args B w0 => X.bind (X.emit (.p (StableAt φ B ∧ φ w0))) fun _ => X.bind (chk b) fun _ => X.pure (.val v)
  | _ => X.fail
theorem Local.worldX (φ : World → Prop) (b : Bool) (v : Value) : Local (worldX φ b v) := by
  unfold Sx.worldX
  refine Local.bind (Local.rd _) fun c => ?_
  split
  · exact Local.bind (Local.emit _) fun _ => Local.bind (Local.chk _) fun _ => Local.pure _
  · exact Local.fail
theorem args_world {φ : World → Prop} {r : Env} {ow : Nat → Option Nat} {h : Heap} {w w0 : World} {B n : Nat} (hs : Sat P r ow h w) (hn : h.get n = some (.args B w0)) (hst : StableAt φ B) (h0 : φ w0) : φ w :=
  hst w0 w (fun b hb => (hs.chunk n _ hn b hb).2) h0
theorem worldX_snd {φ : World → Prop} {b : Bool} {v : Value} {f : FuncId} {args : List Value} (hg : b = true → GivesW P φ f args v) : TaskSnd P (worldX φ b v) (.call f args) := by
  intro d s res s' h
  unfold worldX at h
  obtain ⟨c, s1, h1, h2⟩ := bind_some h
  obtain ⟨g1, c1⟩ := calm_rd h1
  cases c with
  | args B w0 =>
    simp only at h2
    obtain ⟨_, s2, h3, h4⟩ := bind_some h2
    obtain ⟨c2, e2⟩ := calm_emit h3
    obtain ⟨_, s3, h5, h6⟩ := bind_some h4
    obtain ⟨c3, e3⟩ := calm_chk h5
    obtain ⟨rfl, rfl⟩ := pure_some h6
    have cm := (c1.trans c2).trans c3
    refine ⟨cm.V, fun hV r ow w hs _ us hu => ?_⟩
    have hw := e2 (c3.V hV)
    exact Calls.mono (hg (e3 hV) r us w (args_world hs g1 hw.1 hw.2) hu) fun e' w' ⟨u, he, hv, ho⟩ => ⟨r, ow, u, he, Post.of_st rfl cm.c cm.h (Post.old hs ho), hv⟩
  | _ => simp [X.fail] at h2

/-- A call that makes a row of strings, in worlds of which something is known. -/
def MakesW (P : Program) (φ : World → Prop) (f : FuncId) (args : List Value) (row : List ByteArray) : Prop :=
  ∀ (r : Env) (us : Array Value) (w : World), φ w → RelL r args us.toList → Calls P f us w fun e w' => ∃ b cap cs, e = .returned (.slice (some ⟨b, 0, none⟩) row.length cap) ∧ Old w w' ∧ w.heap.size ≤ b ∧
    w'.heap[b]? = some (.cells cs 9 (0, 0)) ∧ cs.toList.take row.length = row.map Value.string ∧ row.length ≤ cap ∧ row.length ≤ cs.size ∧ cs.size = cap * P.cellsOf 9
theorem Sat.claim {r : Env} {ow : Nat → Option Nat} {h : Heap} {w w' : World} (hs : Sat P r ow h w) (ho : Old w w') {n b cap : Nat} {l : List Value} {cs : Array Value} {t : TypeId} (hn : r.blk n = none) (hb : w.heap.size ≤ b)
    (hcell : w'.heap[b]? = some (.cells cs t (0, 0))) (hl : RelL r l (cs.toList.take l.length)) (hle : l.length ≤ cs.size) (hk : cs.size = cap * P.cellsOf t) : Sat P (r.bind n b cap) (own ow b n) (h.put n (.cells l t)) w' where
  chunk := fun m c hm => by
    rw [Heap.get_put] at hm
    split at hm
    · rename_i e; subst e; cases hm
      exact ⟨b, cs, by simp [Env.bind], by simp [own], hcell, hl.mono (Env.le_bind hn), hle, by simpa [Env.bind] using hk⟩
    · rename_i e
      refine Chunk.sat_keep (w := w) (ow := ow) (fun b' hb' => ho.keep b' (hs.bound b' m hb')) (fun b' => ?_) (Chunk.sat_mono (Env.le_bind hn) (hs.chunk m c hm))
      unfold own
      split
      · rename_i e2; subst e2
        exact ⟨fun e3 => absurd (Option.some.inj e3).symm e, fun e3 => absurd (hs.bound _ _ e3) (Nat.not_lt.2 hb)⟩
      · exact Iff.rfl
  bound := fun b' m hb' => by
    unfold own at hb'
    split at hb'
    · rename_i e; subst e; exact (Array.getElem?_eq_some_iff.1 hcell).1
    · exact Nat.lt_of_lt_of_le (hs.bound b' m hb') ho.size
  known := fun b' m hb' => by
    unfold own at hb'
    split at hb'
    · cases hb'; exact .inl (by simp [Env.bind])
    · exact (Env.le_bind hn).known (hs.known b' m hb')
/-- Such a call, the old memory under name 0. -/
def makesX (φ : World → Prop) (b : Bool) (row : List ByteArray) : X ARes := X.bind (X.rd 0) fun c => match c with
  | .args B w0 => X.bind (X.emit (.p (StableAt φ B ∧ φ w0))) fun _ => X.bind (chk b) fun _ => X.bind (X.new (.cells (row.map Value.string) 9)) fun n => X.pure (.val (.slice (some ⟨n, 0, none⟩) row.length 0))
  | _ => X.fail
theorem Local.makesX (φ : World → Prop) (b : Bool) (row : List ByteArray) : Local (makesX φ b row) := by
  unfold Sx.makesX
  refine Local.bind (Local.rd _) fun c => ?_
  split
  · exact Local.bind (Local.emit _) fun _ => Local.bind (Local.chk _) fun _ => Local.bind (Local.new _) fun _ => Local.pure _
  · exact Local.fail
theorem str_relL {r : Env} : ∀ row : List ByteArray, RelL r (row.map Value.string) (row.map Value.string)
  | [] => .nil
  | _ :: l => .cons (.string _) (str_relL l)
theorem makesX_snd {φ : World → Prop} {b : Bool} {row : List ByteArray} {f : FuncId} {args : List Value} (hg : b = true → MakesW P φ f args row) : TaskSnd P (makesX φ b row) (.call f args) := by
  intro d s res s' h
  unfold makesX at h
  obtain ⟨c, s1, h1, h2⟩ := bind_some h
  obtain ⟨g1, c1⟩ := calm_rd h1
  cases c with
  | args B w0 =>
    simp only at h2
    obtain ⟨_, s2, h3, h4⟩ := bind_some h2
    obtain ⟨c2, e2⟩ := calm_emit h3
    obtain ⟨_, s3, h5, h6⟩ := bind_some h4
    obtain ⟨c3, e3⟩ := calm_chk h5
    obtain ⟨n, s4, h7, h8⟩ := bind_some h6
    obtain ⟨rfl, rfl⟩ := new_some h7
    obtain ⟨rfl, rfl⟩ := pure_some h8
    have cm := (c1.trans c2).trans c3
    refine ⟨fun hV => cm.V hV, fun hV r ow w hs hf us hu => ?_⟩
    have hV' : VCs s3.V := hV
    have hw := e2 (c3.V hV')
    refine Calls.mono (hg (e3 hV') r us w (args_world hs g1 hw.1 hw.2) hu) fun e' w' ⟨b, cap, cs, he, ho, hb, hc, ht, hl, hle, hk⟩ => ?_
    have hn : r.blk s3.c = none := (hf s3.c (by rw [cm.c]; exact Nat.le_refl _) (Nat.lt_succ_self _)).1
    have hlen : (row.map Value.string).length = row.length := List.length_map ..
    refine ⟨r.bind s3.c b cap, own ow b s3.c, _, he, ⟨Env.le_bind hn, ?_, ⟨ho.os, ho.tape, ho.output, ho.size, fun b' hb' e => ⟨?_, ho.keep b' hb'⟩⟩, ?_, ?_, ?_⟩, ?_⟩
    · show Sat P _ _ (s3.h.put s3.c _) w'
      rw [cm.h]
      exact hs.claim ho hn hb hc (by rw [hlen, ht]; exact str_relL row) (by rw [hlen]; exact hle) hk
    · unfold own
      rw [if_neg (by omega)]
      exact e
    · rw [← cm.c]; exact New.bind
    · show s.c ≤ s3.c + 1
      rw [cm.c]; exact Nat.le_succ _
    · intro b' m hb'
      unfold own at hb'
      split at hb'
      · cases hb'; exact .inr ⟨by rw [cm.c]; exact Nat.le_refl _, Nat.lt_succ_self _⟩
      · exact .inl ⟨b', hb'⟩
    · exact .slice (by simp [Env.bind]) (.inl rfl) hl (fun _ => ⟨rfl, rfl, by simp [Env.bind]⟩) (fun q => by cases q)
  | _ => simp [X.fail] at h2
/-- Contracts over old memory: of values, of rows. -/
def addW (C : Contracts) (f : FuncId) (φ : World → Prop) (g : List Value → Option (Bool × Value)) : Contracts := fun t => match t with
  | .call k xs => match Nat.beq k f with
    | true => (match g xs with
      | some (b, v) => some (worldX φ b v)
      | none => none)
    | false => C (.call k xs)
  | t => C t
def addM (C : Contracts) (f : FuncId) (φ : World → Prop) (g : List Value → Option (Bool × List ByteArray)) : Contracts := fun t => match t with
  | .call k xs => match Nat.beq k f with
    | true => (match g xs with
      | some (b, v) => some (makesX φ b v)
      | none => none)
    | false => C (.call k xs)
  | t => C t
theorem Holds.addW {C : Contracts} (h : Holds P C) {f : FuncId} {φ : World → Prop} {g : List Value → Option (Bool × Value)} (hg : ∀ xs b v, g xs = some (b, v) → b = true → GivesW P φ f xs v) : Holds P (addW C f φ g) := by
  have key : ∀ t x, Sx.addW C f φ g t = some x → C t = some x ∨ ∃ xs b v, t = .call f xs ∧ g xs = some (b, v) ∧ x = worldX φ b v := by
    intro t x e
    unfold Sx.addW at e
    split at e
    · rename_i k xs
      cases hb : Nat.beq k f with
      | true =>
        simp only [hb] at e
        obtain rfl := Nat.eq_of_beq_eq_true hb
        cases hx : g xs with
        | none => simp [hx] at e
        | some q =>
          obtain ⟨b, v⟩ := q
          simp only [hx, Option.some.injEq] at e
          exact .inr ⟨_, _, _, rfl, hx, e.symm⟩
      | false =>
        simp only [hb] at e
        exact .inl e
    · exact .inl e
  refine ⟨fun t x e => ?_, fun t x e => ?_⟩
  · rcases key t x e with q | ⟨xs, b, v, rfl, hx, rfl⟩
    · exact h.loc t x q
    · exact Local.worldX _ _ _
  · rcases key t x e with q | ⟨xs, b, v, rfl, hx, rfl⟩
    · exact h.snd t x q
    · exact worldX_snd (hg xs b v hx)
theorem Holds.addM {C : Contracts} (h : Holds P C) {f : FuncId} {φ : World → Prop} {g : List Value → Option (Bool × List ByteArray)} (hg : ∀ xs b v, g xs = some (b, v) → b = true → MakesW P φ f xs v) : Holds P (addM C f φ g) := by
  have key : ∀ t x, Sx.addM C f φ g t = some x → C t = some x ∨ ∃ xs b v, t = .call f xs ∧ g xs = some (b, v) ∧ x = makesX φ b v := by
    intro t x e
    unfold Sx.addM at e
    split at e
    · rename_i k xs
      cases hb : Nat.beq k f with
      | true =>
        simp only [hb] at e
        obtain rfl := Nat.eq_of_beq_eq_true hb
        cases hx : g xs with
        | none => simp [hx] at e
        | some q =>
          obtain ⟨b, v⟩ := q
          simp only [hx, Option.some.injEq] at e
          exact .inr ⟨_, _, _, rfl, hx, e.symm⟩
      | false =>
        simp only [hb] at e
        exact .inl e
    · exact .inl e
  refine ⟨fun t x e => ?_, fun t x e => ?_⟩
  · rcases key t x e with q | ⟨xs, b, v, rfl, hx, rfl⟩
    · exact h.loc t x q
    · exact Local.makesX _ _ _
  · rcases key t x e with q | ⟨xs, b, v, rfl, hx, rfl⟩
    · exact h.snd t x q
    · exact makesX_snd (hg xs b v hx)
end Go.Sx

namespace Go.Eng
def cutL (c : UInt8) : List UInt8 → List (List UInt8)
  | [] => [[]]
  | b :: r => if b = c then [] :: cutL c r else match cutL c r with
    | h :: t => (b :: h) :: t
    | [] => [[b]]
theorem cutL_ne (c : UInt8) : ∀ l, cutL c l ≠ []
  | [] => by simp [cutL]
  | b :: r => by
    unfold cutL
    split
    · simp
    · split <;> simp
def headOn (x : List UInt8) : List (List UInt8) → List (List UInt8)
  | h :: t => (x ++ h) :: t
  | [] => [x]
def refStep (c : UInt8) (out : List (List UInt8)) (b : UInt8) : List (List UInt8) := if b = c then out ++ [[]] else out.dropLast ++ [out.getLastD [] ++ [b]]
theorem ref_fold (c : UInt8) : ∀ (l : List UInt8) (out : List (List UInt8)) (x : List UInt8), l.foldl (refStep c) (out ++ [x]) = out ++ headOn x (cutL c l)
  | [], out, x => by simp [cutL, headOn]
  | b :: r, out, x => by
    rw [List.foldl_cons]
    by_cases h : b = c
    · rw [show refStep c (out ++ [x]) b = (out ++ [x]) ++ [[]] by simp [refStep, h], ref_fold c r]
      simp only [cutL, h, if_true, headOn, List.append_nil, List.append_assoc]
      cases e : cutL c r with
      | nil => exact absurd e (cutL_ne c r)
      | cons y t => simp [headOn]
    · rw [show refStep c (out ++ [x]) b = out ++ [x ++ [b]] by simp [refStep, h], ref_fold c r]
      simp only [cutL, h, if_false]
      cases e : cutL c r with
      | nil => exact absurd e (cutL_ne c r)
      | cons y t => simp [headOn]
theorem ref_split (c : UInt8) (l : List UInt8) : l.foldl (refStep c) [[]] = cutL c l := by
  have h := ref_fold c l [] []
  simp only [List.nil_append] at h
  rw [h]
  cases e : cutL c l with
  | nil => exact absurd e (cutL_ne c l)
  | cons y t => simp [headOn]
theorem index_eq (c : UInt8) (r : List UInt8) : Lib.index (c :: r) [c] = 0 := by
  unfold Lib.index
  simp
theorem index_ne {b c : UInt8} (h : b ≠ c) (r : List UInt8) : Lib.index (b :: r) [c] = if Lib.index r [c] == -1 then -1 else Lib.index r [c] + 1 := by
  rw [Lib.index]
  simp [Ne.symm h]
theorem index_none (c : UInt8) : ∀ {l : List UInt8}, Lib.count l [c] = 0 → Lib.index l [c] = -1
  | [], _ => by simp [Lib.index]
  | b :: r, h => by
    by_cases e : b = c
    · subst e; rw [Lib.count_cons_eq] at h; omega
    · rw [Lib.count_cons_ne _ _ _ e] at h
      rw [index_ne e, index_none c h]
      rfl
theorem index_some (c : UInt8) : ∀ {l : List UInt8}, Lib.count l [c] ≠ 0 → Lib.index l [c] ≠ -1
  | [], h => by rw [Lib.count_one] at h; simp at h
  | b :: r, h => by
    by_cases e : b = c
    · subst e; rw [index_eq]; decide
    · rw [Lib.count_cons_ne _ _ _ e] at h
      have ih := index_some c h
      have := Lib.index_ge r [c]
      rw [index_ne e, if_neg (by simpa using ih)]
      omega
theorem splitK_cut (c : UInt8) : ∀ l, Lib.splitK [c] 0 (Lib.count l [c]) l = cutL c l
  | [] => by rw [Lib.count_one]; rfl
  | b :: r => by
    have ih := splitK_cut c r
    by_cases e : b = c
    · subst e
      rw [Lib.count_cons_eq, Nat.add_comm, Lib.splitK, index_eq, if_neg (by decide)]
      simp only [cutL, if_true]
      rw [← ih]
      simp
    · rw [Lib.count_cons_ne _ _ _ e]
      simp only [cutL, e, if_false]
      cases k : Lib.count r [c] with
      | zero =>
        rw [k] at ih
        rw [← ih]
        rfl
      | succ n =>
        rw [k] at ih
        have hs := index_some c (l := r) (by omega)
        have hg := Lib.index_ge r [c]
        rw [← ih]
        obtain ⟨m, hm⟩ : ∃ m : Nat, Lib.index r [c] = m := ⟨(Lib.index r [c]).toNat, by omega⟩
        rw [Lib.splitK, Lib.splitK, index_ne e, hm]
        have h1 : ¬ (((m : Int) == -1) = true) := by first | (simp; done) | (simp; omega)
        rw [if_neg h1, if_neg h1]
        have h2 : ¬ ((((m : Int) + 1) == -1) = true) := by first | (simp; done) | (simp; omega)
        rw [if_neg h2]
        have h3 : ((m : Int) + 1).toNat = m + 1 := by omega
        simp [h3]
/-- strings.Split at one byte is the document's. -/
theorem splitB_cut (c : UInt8) (s : ByteArray) : (Lib.splitB ⟨#[c]⟩ 0 (Lib.countB s ⟨#[c]⟩) s).map (·.data.toList) = cutL c s.data.toList := by
  rw [Lib.splitB_data]
  exact splitK_cut c s.data.toList
end Go.Eng
