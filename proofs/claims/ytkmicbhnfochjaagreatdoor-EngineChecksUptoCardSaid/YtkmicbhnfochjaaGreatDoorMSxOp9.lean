/- Symbolic executor, part 10: make, cutting, maps with integer keys. No condition. -/
import Derived.Test.YtkmicbhnfochjaaGreatDoorMSxOp5
import Derived.Laws.Small

namespace Go.Sx

section
variable {P : Program}

def exMakeSlice (P : Program) (t : TypeId) (len cap : Value) : X Value := match len, cap with
  | .int _ l, .int _ c => match P.underlying t with
    | some (.slice e) => match P.info? e with
      | some i => X.bind (zeroOk i) fun _ => X.bind (chk (decide (l = c ∧ 0 ≤ l ∧ (i.bytes : Int) * c ≤ 281474976710656 ∧ c ≤ 9223372036854775807))) fun _ => X.bind (zeroV P e) fun z =>
          X.bind (exRow e (zrep (cellsL z) c.toNat)) fun n => X.pure (.slice (some ⟨n, 0, none⟩) c.toNat 0)
      | none => X.fail
    | _ => X.fail
  | _, _ => X.fail
theorem snd_makeSlice (t : TypeId) (len cap : Value) : Snd P (exMakeSlice P t len cap) (fun r m => ∃ u y, Rel r len u ∧ Rel r cap y ∧ m = Instr.makeSlice t u y) := by
  intro d s v s' h
  unfold exMakeSlice at h
  split at h
  · rename_i k1 l k2 c
    cases hD : P.underlying t with
    | none => simp [hD, X.fail] at h
    | some D =>
    cases D <;> simp only [hD] at h <;> try (simp [X.fail] at h; done)
    rename_i e
    cases hi : P.info? e with
    | none => simp [hi, X.fail] at h
    | some i =>
    simp only [hi] at h
    obtain ⟨_, s1, h1, h2⟩ := bind_some h
    obtain ⟨⟨z, hz, hzl⟩, rfl⟩ := calm_zeroOk h1
    obtain ⟨_, s2, h3, h4⟩ := bind_some h2
    obtain ⟨cm, hk⟩ := calm_chk h3
    obtain ⟨z', s3, h5, h6⟩ := bind_some h4
    obtain ⟨⟨i', hi', hz'⟩, hp, rfl⟩ := zero_some h5
    obtain rfl : i = i' := by rw [hi] at hi'; exact Option.some.inj hi'
    obtain rfl : z = z' := by rw [hz] at hz'; exact Option.some.inj hz'
    rw [zrep_eq, hzl] at h6
    obtain ⟨n, s4, h7, h8⟩ := bind_some h6
    obtain ⟨rfl, rfl⟩ := new_some h7
    obtain ⟨rfl, rfl⟩ := pure_some h8
    refine ⟨fun hV => cm.V hV, fun hV r ow w m hs hf ⟨u, y, hu, hy, hm⟩ => ?_⟩
    obtain ⟨rfl, h0, hb, h63⟩ := of_decide_eq_true (hk hV)
    cases hu; cases hy; subst hm
    have hrun := run_make (P := P) w t e i z hD hi hz k1 k2 l l h0 (Int.le_refl _) hb h63
    have hs2 : Sat P r ow s2.h w := by rw [cm.h]; exact hs
    have hf2 : Fresh r s2.c (s2.c + 1) := by rw [cm.c]; exact hf.sub (Nat.le_refl _) (by show s.c + 1 ≤ s2.c + 1; rw [cm.c]; exact Nat.le_refl _)
    have hlen : (zeroRow (cellsL z) (l.toNat * i.size)).length = l.toNat * i.size := by simp [zeroRow_length]
    have hpost := post_new (P := P) (s := s2) (t := e) (k := l.toNat) hs2 hf2 (relL_take_self (zeroRow_rel (r := r) hp (l.toNat * i.size))) (Nat.le_refl _) (by rw [hlen, cellsOf_eq hi]) s2.R (s2.c :: s2.W) s2.V s2.k
    have hmc : madeCells z.cells (l.toNat * i.size) = ⟨zeroRow (cellsL z) (l.toNat * i.size)⟩ := by
      unfold madeCells; rw [zeroRow_eq, cells_eq]
    rw [hmc] at hrun
    exact ⟨_, _, _, _, hrun, (Post.calm (P := P) hs cm).trans hpost, .slice (by simp [Env.bind]) (.inl rfl) (Nat.le_refl _) (fun _ => ⟨rfl, rfl, by simp [Env.bind]⟩) (fun e => by cases e)⟩
  · simp [X.fail] at h

/-! Cutting. -/
def subStr (s : ByteArray) (l h : Nat) : ByteArray := ⟨⟨(s.data.toList.drop l).take (h - l)⟩⟩
theorem subStr_eq (s : ByteArray) (l h : Nat) (hl : l ≤ h) (hh : h ≤ s.size) : subStr s l h = s.extract l h := by
  rw [ByteArray.ext_iff]
  rw [ByteArray.data_extract]
  apply Array.ext'
  simp [subStr, Array.toList_extract, List.extract]

def bnd (dflt : Int) : Option Value → Option Int
  | none => some dflt
  | some (.int _ n) => some n
  | some _ => none
inductive RelO (r : Env) : Option Value → Option Value → Prop
  | none : RelO r none none
  | some {x y : Value} (h : Rel r x y) : RelO r (some x) (some y)

theorem bnd_inv {r : Env} {d n : Int} {o p : Option Value} (h : bnd d o = some n) (hr : RelO r o p) : (o = none ∧ p = none ∧ n = d) ∨ ∃ k, o = some (.int k n) ∧ p = some (.int k n) := by
  cases hr with
  | none => simp [bnd] at h; exact .inl ⟨rfl, rfl, h.symm⟩
  | some hx =>
    rename_i x y
    cases x <;> simp [bnd] at h
    subst h; cases hx
    exact .inr ⟨_, rfl, rfl⟩

def exSlice (P : Program) (t : TypeId) (x : Value) (lo hi mx : Option Value) : X Value := match x with
  | .string s => match P.underlying t with
    | some .string => X.bind (opt (bnd 0 lo)) fun l => X.bind (opt (bnd (s.data.toList.length : Int) hi)) fun h => X.bind (need mx.isNone) fun _ =>
        X.bind (chk (decide (0 ≤ l ∧ l ≤ h ∧ h ≤ (s.data.toList.length : Int)))) fun _ => X.pure (.string (subStr s l.toNat h.toNat))
    | _ => X.fail
  | .slice a len mk => match P.underlying t with
    | some (.slice e) => X.bind (need (mx.isNone || hi.isSome)) fun _ => X.bind (szOf P e) fun sz => X.bind (opt (bnd 0 lo)) fun l => X.bind (opt (bnd (len : Int) hi)) fun h => X.bind (opt (bnd h mx)) fun m =>
        X.bind (chk (decide (0 ≤ l ∧ l ≤ h ∧ h ≤ (len : Int) ∧ m = h))) fun _ => match a with
        | none => X.pure (.slice none 0 0)
        | some ⟨n, off, none⟩ => X.bind (ask (decide (l = 0))) fun z => match z, mx with
          | true, none => X.pure (.slice (some ⟨n, off, none⟩) h.toNat (match mk with | 0 => 0 | _ => 1))
          | true, some _ => X.pure (.slice (some ⟨n, off, none⟩) h.toNat 2)
          | false, none => X.pure (.slice (some ⟨n, off + l.toNat * sz, none⟩) (h - l).toNat 1)
          | false, some _ => X.fail
        | _ => X.fail
    | _ => X.fail
  | _ => X.fail

theorem run_bounds {w : World} {isS : Bool} {len cap : Nat} {l h : Int} {lo hi : Option Value} (h1 : (lo = none ∧ l = 0) ∨ ∃ k, lo = some (.int k l)) (h2 : (hi = none ∧ h = (len : Int)) ∨ ∃ k, hi = some (.int k h))
    (h0 : 0 ≤ l) (hl : l ≤ h) (hh : h ≤ len) (hc : len ≤ cap) : (Instr.sliceBounds isS len cap lo hi none).run P w = .ok (l.toNat, h.toNat, cap) w := by
  have eh : (h.toNat : Int) = h := Int.toNat_of_nonneg (by omega)
  have h3 : 0 ≤ h := by omega
  have h4 : h ≤ (cap : Int) := by omega
  rcases h1 with ⟨rfl, rfl⟩ | ⟨k1, rfl⟩ <;> rcases h2 with ⟨rfl, rfl⟩ | ⟨k2, rfl⟩
  · simp [Instr.sliceBounds]
  · simp [Instr.sliceBounds, run_sliceBound, h3, h4]
  · simp [Instr.sliceBounds, run_sliceBound, h0, hl]
  · simp [Instr.sliceBounds, run_sliceBound, h3, h4, h0, eh, hl]
theorem run_bounds3 {w : World} {isS : Bool} {len cap : Nat} {l h : Int} {lo hi : Option Value} {km : IntKind} (h1 : (lo = none ∧ l = 0) ∨ ∃ k, lo = some (.int k l)) (h2 : ∃ k, hi = some (.int k h))
    (h0 : 0 ≤ l) (hl : l ≤ h) (hh : h ≤ len) (hc : len ≤ cap) : (Instr.sliceBounds isS len cap lo hi (some (.int km h))).run P w = .ok (l.toNat, h.toNat, h.toNat) w := by
  have eh : (h.toNat : Int) = h := Int.toNat_of_nonneg (by omega)
  have h3 : 0 ≤ h := by omega
  have h4 : h ≤ (cap : Int) := by omega
  have h5 : h ≤ (h.toNat : Int) := by omega
  rcases h1 with ⟨rfl, rfl⟩ | ⟨k1, rfl⟩ <;> obtain ⟨k2, rfl⟩ := h2
  · have q1 := fun code => run_sliceBound (P := P) w km h cap code h3 h4
    have q2 := fun code => run_sliceBound (P := P) w k2 h h.toNat code h3 h5
    simp only [Instr.sliceBounds, Sem.run_bind, Sem.run_pure, q1, Result.andThen_ok, q2]; rfl
  · simp [Instr.sliceBounds, run_sliceBound, h3, h4, h0, eh, hl]

theorem snd_slice (t : TypeId) (x : Value) (lo hi mx : Option Value) : Snd P (exSlice P t x lo hi mx) (fun r m => ∃ u lo' hi' mx', Rel r x u ∧ RelO r lo lo' ∧ RelO r hi hi' ∧ RelO r mx mx' ∧ m = Instr.sliceAt t u lo' hi' mx') := by
  intro d s v s' h
  unfold exSlice at h
  split at h
  · rename_i sx
    cases hD : P.underlying t with
    | none => simp [hD, X.fail] at h
    | some D =>
    cases D <;> simp only [hD] at h <;> try (simp [X.fail] at h; done)
    obtain ⟨l, s1, h1, h2⟩ := bind_some h
    obtain ⟨hl, rfl⟩ := opt_some h1
    obtain ⟨hh, s2, h3, h4⟩ := bind_some h2
    obtain ⟨hhh, rfl⟩ := opt_some h3
    obtain ⟨_, s3, h5, h6⟩ := bind_some h4
    obtain ⟨hmx, rfl⟩ := need_some h5
    obtain ⟨_, s4, h7, h8⟩ := bind_some h6
    obtain ⟨cm, hk⟩ := calm_chk h7
    obtain ⟨rfl, rfl⟩ := pure_some h8
    refine ⟨fun hV => cm.V hV, fun hV r ow w m hs hf ⟨u, lo', hi', mx', hu, hlo, hhi, hmx', hm⟩ => ?_⟩
    obtain ⟨g1, g2, g3⟩ := of_decide_eq_true (hk hV)
    have hm0 : mx = none := by simpa using hmx
    subst hm0
    cases hmx'
    cases hu
    have hb := run_bounds (P := P) (w := w) (isS := false) (len := sx.size) (cap := sx.size) (l := l) (h := hh) (lo := lo') (hi := hi')
      (by rcases bnd_inv hl hlo with ⟨_, h2, h3⟩ | ⟨k, _, h2⟩; exact .inl ⟨h2, h3⟩; exact .inr ⟨k, h2⟩) (by rcases bnd_inv hhh hhi with ⟨_, h2, h3⟩ | ⟨k, _, h2⟩; exact .inl ⟨h2, h3⟩; exact .inr ⟨k, h2⟩) g1 g2 g3 (Nat.le_refl _)
    refine ⟨r, ow, _, w, ?_, Post.calm hs cm, .string _⟩
    subst hm
    rw [subStr_eq sx l.toNat hh.toNat (by omega) (by show _ ≤ sx.data.toList.length; omega)]
    simp [Instr.sliceAt, run_underlying hD, Instr.slice, hb]
  · rename_i a len mk
    cases hD : P.underlying t with
    | none => simp [hD, X.fail] at h
    | some D =>
    cases D <;> simp only [hD] at h <;> try (simp [X.fail] at h; done)
    rename_i e
    obtain ⟨_, sm, hm1, hm2⟩ := bind_some h
    obtain ⟨hms, rfl⟩ := need_some hm1
    obtain ⟨sz, s0, h00, h01⟩ := bind_some hm2
    obtain ⟨⟨i, hi0, rfl⟩, rfl⟩ := sz_some h00
    obtain ⟨l, s1, h1, h2⟩ := bind_some h01
    obtain ⟨hl, rfl⟩ := opt_some h1
    obtain ⟨hh, s2, h3, h4⟩ := bind_some h2
    obtain ⟨hhh, rfl⟩ := opt_some h3
    obtain ⟨mm, s3, h5, h6⟩ := bind_some h4
    obtain ⟨hmm, rfl⟩ := opt_some h5
    obtain ⟨_, s4, h7, h8⟩ := bind_some h6
    obtain ⟨cm, hk⟩ := calm_chk h7
    -- what the bounds come to
    have key : VCs s4.V → ∀ (r : Env) (w : World) (u : Value) (lo' hi' mx' : Option Value), Rel r (.slice a len mk) u → RelO r lo lo' → RelO r hi hi' → RelO r mx mx' → ∀ (a' : Option Addr) (c : Nat), u = .slice a' len c → len ≤ c →
        (0 ≤ l ∧ l ≤ hh ∧ hh ≤ (len : Int)) ∧ (Instr.sliceAt t u lo' hi' mx').run P w = .ok (.slice (if (if mx = none then c else hh.toNat) = l.toNat then a' else a'.map (·.add (l.toNat * i.size))) (hh.toNat - l.toNat) ((if mx = none then c else hh.toNat) - l.toNat)) w := by
      intro hV r w u lo' hi' mx' hu hlo hhi hmx a' c hua hc
      obtain ⟨g1, g2, g3, g4⟩ := of_decide_eq_true (hk hV)
      refine ⟨⟨g1, g2, g3⟩, ?_⟩
      subst hua
      have hb1 : (lo' = none ∧ l = 0) ∨ ∃ k, lo' = some (.int k l) := by rcases bnd_inv hl hlo with ⟨_, h2, h3⟩ | ⟨k, _, h2⟩; exact .inl ⟨h2, h3⟩; exact .inr ⟨k, h2⟩
      rcases bnd_inv hmm hmx with ⟨e1, e2, e3⟩ | ⟨k, e1, e2⟩
      · subst e1; subst e2
        have hb := run_bounds (P := P) (w := w) (isS := true) (len := len) (cap := c) (l := l) (h := hh) (lo := lo') (hi := hi') hb1 (by rcases bnd_inv hhh hhi with ⟨_, h2, h3⟩ | ⟨k, _, h2⟩; exact .inl ⟨h2, h3⟩; exact .inr ⟨k, h2⟩) g1 g2 g3 hc
        simp [Instr.sliceAt, run_underlying hD, Instr.slice, hb, run_size hi0]
      · subst e1; subst e2
        subst g4
        rcases bnd_inv hhh hhi with ⟨q1, q2, q3⟩ | ⟨k2, q1, q2⟩
        · subst q1; simp at hms
        · have hb := run_bounds3 (P := P) (w := w) (isS := true) (len := len) (cap := c) (l := l) (h := mm) (lo := lo') (hi := hi') (km := k) hb1 ⟨k2, q2⟩ g1 g2 g3 hc
          simp [Instr.sliceAt, run_underlying hD, Instr.slice, hb, run_size hi0]
    split at h8
    · obtain ⟨rfl, rfl⟩ := pure_some h8
      refine ⟨fun hV => cm.V hV, fun hV r ow w m hs hf ⟨u, lo', hi', mx', hu, hlo, hhi, hmx', hm⟩ => ?_⟩
      have hu' := hu
      cases hu with
      | sliceNil =>
        obtain ⟨⟨g1, g2, g3⟩, hrun⟩ := key hV r w _ lo' hi' mx' hu' hlo hhi hmx' none 0 rfl (Nat.le_refl _)
        subst hm
        refine ⟨r, ow, _, w, hrun, Post.calm hs cm, ?_⟩
        have q1 : hh.toNat = 0 := by omega
        have q2 : l.toNat = 0 := by omega
        rw [q1, q2]
        simp
        exact .sliceNil
    · rename_i n off
      obtain ⟨zb, s5, h9, h10⟩ := bind_some h8
      obtain ⟨cm2, hz⟩ := calm_ask h9
      have cmm := cm.trans cm2
      split at h10
      · obtain ⟨rfl, rfl⟩ := pure_some h10
        refine ⟨fun hV => cmm.V hV, fun hV r ow w m hs hf ⟨u, lo', hi', mx', hu, hlo, hhi, hmx', hm⟩ => ?_⟩
        have hl0 : l = 0 := by have := hz hV; simpa using this
        have hu' := hu
        cases hu with
        | @slice _ b _ off' _ _ c hbk ho hlc h0 h2 =>
        obtain ⟨⟨g1, g2, g3⟩, hrun⟩ := key (cm2.V hV) r w _ lo' hi' none hu' hlo hhi (by cases hmx'; exact .none) _ c rfl hlc
        subst hl0
        subst hm
        cases hmx'
        refine ⟨r, ow, _, w, hrun, Post.calm hs cmm, ?_⟩
        simp only [if_true, Int.toNat_zero, Nat.zero_mul, Addr.add_zero', Option.map_some, ite_self, Nat.sub_zero]
        refine .slice hbk (ho.imp id fun e => by omega) (by omega) (fun e => ?_) (fun e => ?_)
        · split at e
          · exact h0 rfl
          · cases e
        · split at e <;> cases e
      · obtain ⟨rfl, rfl⟩ := pure_some h10
        refine ⟨fun hV => cmm.V hV, fun hV r ow w m hs hf ⟨u, lo', hi', mx', hu, hlo, hhi, hmx', hm⟩ => ?_⟩
        have hl0 : l = 0 := by have := hz hV; simpa using this
        have hu' := hu
        cases hu with
        | @slice _ b _ off' _ _ c hbk ho hlc h0 h2 =>
        obtain ⟨⟨g1, g2, g3⟩, hrun⟩ := key (cm2.V hV) r w _ lo' hi' mx' hu' hlo hhi hmx' _ c rfl hlc
        subst hl0
        subst hm
        refine ⟨r, ow, _, w, hrun, Post.calm hs cmm, ?_⟩
        simp only [Int.toNat_zero, Nat.zero_mul, Addr.add_zero', Option.map_some, ite_self, Nat.sub_zero]
        exact .slice hbk (ho.imp id fun e => by omega) (by simp) (fun e => by cases e) (fun e => by simp)
      · obtain ⟨rfl, rfl⟩ := pure_some h10
        refine ⟨fun hV => cmm.V hV, fun hV r ow w m hs hf ⟨u, lo', hi', mx', hu, hlo, hhi, hmx', hm⟩ => ?_⟩
        have hl0 : l ≠ 0 := by have := hz hV; simpa using this
        have hu' := hu
        cases hu with
        | @slice _ b _ off' _ _ c hbk ho hlc h0 h2 =>
        obtain ⟨⟨g1, g2, g3⟩, hrun⟩ := key (cm2.V hV) r w _ lo' hi' none hu' hlo hhi (by cases hmx'; exact .none) _ c rfl hlc
        subst hm
        cases hmx'
        have hoff : off' = off := by
          rcases ho with e | e
          · exact e
          · omega
        subst hoff
        simp only [if_true] at hrun
        by_cases hcl : c = l.toNat
        · rw [if_pos hcl] at hrun
          refine ⟨r, ow, _, w, hrun, Post.calm hs cmm, ?_⟩
          have e1 : (hh - l).toNat = 0 := by omega
          have e2 : hh.toNat - l.toNat = 0 := by omega
          rw [e1, e2]
          exact .slice hbk (.inr rfl) (Nat.zero_le _) (fun e => by cases e) (fun e => by cases e)
        · rw [if_neg hcl] at hrun
          refine ⟨r, ow, _, w, hrun, Post.calm hs cmm, ?_⟩
          have e1 : (hh - l).toNat = hh.toNat - l.toNat := by omega
          rw [e1]
          simp only [Option.map_some, add_off]
          exact .slice hbk (.inl rfl) (by omega) (fun e => by cases e) (fun e => by cases e)
      · simp [X.fail] at h10
    · simp [X.fail] at h8
  · simp [X.fail] at h

end
end Go.Sx

namespace Go.Sx

section
variable {P : Program}

def findM (k : IntKind) (a : Int) : List (Value × Value) → Nat → Option (Option (Nat × Value))
  | [], _ => some none
  | (.int k' b, v) :: es, i => if k = k' then (match (a == b) with
    | true => some (some (i, v))
    | false => findM k a es (i + 1)) else none
  | _ :: _, _ => none

theorem findM_run {r : Env} {k j : IntKind} {a : Int} : ∀ {es : List (Value × Value)} {es' : List MapEntry} {i : Nat} {o : Option (Nat × Value)}, RelL r (es.map (·.1)) (es'.map (·.key)) → RelL r (es.map (·.2)) (es'.map (·.val)) → findM k a es i = some o →
    ∃ o', Instr.findNow (.int j) (.int k a) es' i = some o' ∧ (match o, o' with | none, none => True | some (x, v), some (y, u) => x = y ∧ Rel r v u | _, _ => False)
  | [], [], i, o, _, _, h => by simp [findM] at h; subst h; exact ⟨none, rfl, trivial⟩
  | [], _ :: _, _, _, h, _, _ => by cases h
  | _ :: _, [], _, _, h, _, _ => by cases h
  | (kx, vx) :: es, ⟨ek, ev, eb⟩ :: es', i, o, h1, h2, h => by
    cases h1 with
    | cons hk h1 =>
    cases h2 with
    | cons hv h2 =>
    cases kx <;> simp only [findM] at h <;> try (cases h; done)
    rename_i k' b
    cases hk
    split at h
    · rename_i e; subst e
      simp only [Instr.findNow, Instr.sameNow, if_true]
      cases hab : (a == b) with
      | true => simp only [hab] at h; cases h; exact ⟨_, rfl, rfl, hv⟩
      | false => simp only [hab] at h; exact findM_run h1 h2 h
    · cases h

/-- The search in a map, key by key. -/
def findX (k : IntKind) (a : Int) : List (Value × Value) → Nat → X (Option (Nat × Value))
  | [], _ => X.pure none
  | (.int k' b, v) :: es, i => if k = k' then X.bind (ask (a == b)) fun t => match t with
    | true => X.pure (some (i, v))
    | false => findX k a es (i + 1) else X.fail
  | _ :: _, _ => X.fail
theorem findX_some {k : IntKind} {a : Int} {d : Advice} {s' : St} : ∀ {es : List (Value × Value)} {i : Nat} {o : Option (Nat × Value)} {s : St}, findX k a es i d s = some (o, s') → Calm s s' ∧ (VCs s'.V → findM k a es i = some o)
  | [], _, _, _, h => by
    obtain ⟨rfl, rfl⟩ := pure_some h
    exact ⟨.refl _, fun _ => rfl⟩
  | (kx, vx) :: es, i, o, s, h => by
    cases kx <;> simp only [findX] at h <;> try (simp [X.fail] at h; done)
    rename_i k' b
    split at h
    · rename_i e; subst e
      obtain ⟨t, s1, h1, h2⟩ := bind_some h
      obtain ⟨c1, e1⟩ := calm_ask h1
      cases t with
      | true =>
        obtain ⟨rfl, rfl⟩ := pure_some h2
        exact ⟨c1, fun hV => by simp only [findM, if_true, e1 hV]⟩
      | false =>
        obtain ⟨c2, e2⟩ := findX_some h2
        exact ⟨c1.trans c2, fun hV => by simp only [findM, if_true, e1 (c2.V hV), e2 hV]⟩
    · simp [X.fail] at h

theorem run_checkKey {t : TypeId} {j : IntKind} {k : IntKind} {a : Int} (h : P.underlying t = some (.int j)) (b : Bool) (n : Nat) (w : World) : (Instr.checkKey b (n + 1) t (.int k a)).run P w = .ok () w := by
  simp [Instr.checkKey, run_underlying h]

def mapOf (P : Program) (t : TypeId) (m ix : Value) : X (Nat × IntKind × Int × TypeId × List (Value × Value)) := match m, ix with
  | .map (some n), .int k a => match P.underlying t with
    | some (.map kt et) => match P.underlying kt with
      | some (.int _) => X.bind (X.rd n) fun c => match c with
        | .map es => X.pure (n, k, a, et, es)
        | _ => X.fail
      | _ => X.fail
    | _ => X.fail
  | _, _ => X.fail
theorem mapOf_some {t : TypeId} {m ix : Value} {d : Advice} {s s' : St} {n : Nat} {k : IntKind} {a : Int} {et : TypeId} {es : List (Value × Value)} (h : mapOf P t m ix d s = some ((n, k, a, et, es), s')) :
    m = .map (some n) ∧ ix = .int k a ∧ (∃ kt j, P.underlying t = some (.map kt et) ∧ P.underlying kt = some (.int j)) ∧ s.h.get n = some (.map es) ∧ Calm s s' := by
  unfold mapOf at h
  split at h
  · cases hD : P.underlying t with
    | none => simp [hD, X.fail] at h
    | some D =>
    cases D <;> simp only [hD] at h <;> try (simp [X.fail] at h; done)
    rename_i kt et'
    cases hK : P.underlying kt with
    | none => simp [hK, X.fail] at h
    | some D =>
    cases D <;> simp only [hK] at h <;> try (simp [X.fail] at h; done)
    rename_i j
    obtain ⟨c, s1, h1, h2⟩ := bind_some h
    obtain ⟨g, cm⟩ := calm_rd h1
    split at h2
    · obtain ⟨h3, rfl⟩ := pure_some h2
      cases h3
      exact ⟨rfl, rfl, ⟨_, _, rfl, hK⟩, g, cm⟩
    · simp [X.fail] at h2
  · simp [X.fail] at h

def pairOk (ok : Bool) (v : Value) (b : Bool) : Value := match ok with
  | true => .tuple ⟨[v, .bool b]⟩
  | false => v
theorem pairOk_rel {r : Env} {v u : Value} (h : Rel r v u) (ok b : Bool) : Rel r (pairOk ok v b) (if ok then .tuple #[u, .bool b] else u) := by
  cases ok
  · exact h
  · exact RelL.mkTuple (.cons h (.cons (.bool b) .nil))
def exLookup (P : Program) (t : TypeId) (m ix : Value) (ok : Bool) : X Value := X.bind (mapOf P t m ix) fun q => X.bind (findX q.2.1 q.2.2.1 q.2.2.2.2 0) fun o => match o with
  | some (_, v) => X.pure (pairOk ok v true)
  | none => X.bind (zeroV P q.2.2.2.1) fun z => X.bind (need (plain z)) fun _ => X.pure (pairOk ok z false)
theorem snd_lookup (t : TypeId) (mv ix : Value) (ok : Bool) : Snd P (exLookup P t mv ix ok) (fun r m => ∃ u y, Rel r mv u ∧ Rel r ix y ∧ m = Instr.lookup t u y ok) := by
  intro d s v s' h
  unfold exLookup at h
  obtain ⟨⟨n, k, a, et, es⟩, s1, h1, h2⟩ := bind_some h
  obtain ⟨rfl, rfl, ⟨kt, j, hD, hK⟩, hg, cm⟩ := mapOf_some h1
  simp only at h2
  obtain ⟨o, sf, hf0, h2⟩ := bind_some h2
  obtain ⟨cf, hff⟩ := findX_some hf0
  have cm := cm.trans cf
  · try simp only at h2
    cases o with
    | some p =>
      obtain ⟨ip, vp⟩ := p
      simp only at h2
      obtain ⟨rfl, rfl⟩ := pure_some h2
      refine ⟨cm.V, fun hV r ow w m hs hfr ⟨u, y, hu, hy, hm⟩ => ?_⟩
      have hf := hff hV
      cases hy
      cases hu with
      | map hb =>
      obtain ⟨b, es', kk, q1, q2, q3, q4, q5⟩ := hs.chunk n _ hg
      rename_i b0
      obtain rfl : b = b0 := by rw [hb] at q1; exact (Option.some.inj q1).symm
      obtain ⟨o', g1, g2⟩ := findM_run (j := j) q4 q5 hf
      cases o' with
      | none => exact g2.elim
      | some p' =>
      obtain ⟨ip', vp'⟩ := p'
      refine ⟨r, ow, _, w, ?_, Post.calm hs cm, pairOk_rel g2.2 ok true⟩
      subst hm
      have hgo : (getObj b).run P w = .ok (.map es' kk) w := by simp [getObj, Sem.run, q3]
      simp [Instr.lookup, run_underlying hD, hgo, run_checkKey hK, Instr.findKey, run_underlying hK, g1]
    | none =>
      simp only at h2
      obtain ⟨z, s2, h3, h4⟩ := bind_some h2
      obtain ⟨⟨i, hi, hz⟩, hp, rfl⟩ := zero_some h3
      obtain ⟨_, s3, h5, h6⟩ := bind_some h4
      obtain ⟨hpl, rfl⟩ := need_some h5
      obtain ⟨rfl, rfl⟩ := pure_some h6
      refine ⟨cm.V, fun hV r ow w m hs hfr ⟨u, y, hu, hy, hm⟩ => ?_⟩
      have hf := hff hV
      cases hy
      cases hu with
      | map hb =>
      obtain ⟨b, es', kk, q1, q2, q3, q4, q5⟩ := hs.chunk n _ hg
      rename_i b0
      obtain rfl : b = b0 := by rw [hb] at q1; exact (Option.some.inj q1).symm
      obtain ⟨o', g1, g2⟩ := findM_run (j := j) q4 q5 hf
      cases o' with
      | some p' => exact g2.elim
      | none =>
      refine ⟨r, ow, _, w, ?_, Post.calm hs cm, pairOk_rel (plain_rel hpl) ok false⟩
      subst hm
      have hgo : (getObj b).run P w = .ok (.map es' kk) w := by simp [getObj, Sem.run, q3]
      simp [Instr.lookup, run_underlying hD, hgo, run_checkKey hK, Instr.findKey, run_underlying hK, g1, run_zero hi hz]

def setV : List (Value × Value) → Nat → Value → List (Value × Value)
  | [], _, _ => []
  | (k, _) :: es, 0, v => (k, v) :: es
  | e :: es, i + 1, v => e :: setV es i v
def isInt : Value → Bool
  | .int _ _ => true
  | _ => false
def exMapUpdate (P : Program) (t : TypeId) (m ix v : Value) : X Unit := X.bind (mapOf P t m ix) fun q => X.bind (findX q.2.1 q.2.2.1 q.2.2.2.2 0) fun o => match o with
  | some (i, _) => X.wr q.1 (.map (setV q.2.2.2.2 i v))
  | none => X.wr q.1 (.map (q.2.2.2.2 ++ [(ix, v)]))
def exDelete (P : Program) (t : TypeId) (m ix : Value) : X Unit := X.bind (mapOf P t m ix) fun q => X.bind (findX q.2.1 q.2.2.1 q.2.2.2.2 0) fun o => match o with
  | some (i, _) => X.wr q.1 (.map (q.2.2.2.2.eraseIdx i))
  | none => X.wr q.1 (.map q.2.2.2.2)

theorem findM_key {k : IntKind} {a : Int} : ∀ {es : List (Value × Value)} {i0 i : Nat} {v : Value}, findM k a es i0 = some (some (i, v)) → i0 ≤ i ∧ es[i - i0]? = some (.int k a, v)
  | [], _, _, _, h => by simp [findM] at h
  | (kx, vx) :: es, i0, i, v, h => by
    cases kx <;> simp only [findM] at h <;> try (cases h; done)
    rename_i k' b
    split at h
    · rename_i e; subst e
      cases hab : (a == b) with
      | true =>
        simp only [hab] at h
        cases h
        have : a = b := by simpa using hab
        subst this
        exact ⟨Nat.le_refl _, by simp⟩
      | false =>
        simp only [hab] at h
        obtain ⟨h1, h2⟩ := findM_key h
        refine ⟨by omega, ?_⟩
        have : i - i0 = (i - (i0 + 1)) + 1 := by omega
        rw [this]; simpa using h2
    · cases h
theorem run_setObj {w : World} {b : Nat} {es : Array MapEntry} {k : Nat} (h : w.heap[b]? = some (.map es k)) (o : Obj) : (setObj b o).run P w = .ok () { w with heap := w.heap.setIfInBounds b o } := by
  simp [setObj, Sem.run, h]
theorem upd_setObj {w : World} {b : Nat} {o o' : Obj} (h : w.heap[b]? = some o') : WUpd w b o { w with heap := w.heap.setIfInBounds b o } :=
  have hb : b < w.heap.size := by
    rcases Nat.lt_or_ge b w.heap.size with h1 | h1
    · exact h1
    · rw [Array.getElem?_eq_none h1] at h; cases h
  ⟨rfl, rfl, rfl, by simp, by simp [hb], fun k hk => by simp [Array.getElem?_setIfInBounds, hk.symm]⟩
theorem setV_keys : ∀ (es : List (Value × Value)) (i : Nat) (v : Value), (setV es i v).map (·.1) = es.map (·.1)
  | [], _, _ => rfl
  | (_, _) :: _, 0, _ => rfl
  | (_, _) :: es, i + 1, v => by simp [setV, setV_keys es]
theorem setV_vals : ∀ (es : List (Value × Value)) (i : Nat) (v : Value), (setV es i v).map (·.2) = (es.map (·.2)).set i v
  | [], _, _ => rfl
  | (_, _) :: _, 0, _ => rfl
  | (_, _) :: es, i + 1, v => by simp [setV, setV_vals es]
theorem relL_eraseIdx {r : Env} {xs ys : List Value} (h : RelL r xs ys) : ∀ i, RelL r (xs.eraseIdx i) (ys.eraseIdx i) := by
  induction h with
  | nil => intro i; exact .nil
  | cons h t ih => intro i; cases i with
    | zero => exact t
    | succ i => exact .cons h (ih i)
theorem map_eraseIdx' {α β : Type} (f : α → β) : ∀ (l : List α) (i : Nat), (l.eraseIdx i).map f = (l.map f).eraseIdx i
  | [], _ => rfl
  | _ :: _, 0 => rfl
  | _ :: l, i + 1 => by simp [map_eraseIdx' f l i]

theorem snd_delete (t ty : TypeId) (mv ix : Value) {ts : Array TypeId} (hts : ts[0]? = some t) : ∀ d s v s', exDelete P t mv ix d s = some (v, s') → (VCs s'.V → VCs s.V) ∧ (VCs s'.V → ∀ r ow w u y, Sat P r ow s.h w → Fresh r s.c s'.c → Rel r mv u → Rel r ix y →
      ∃ r' ow' w', (Builtin.delete_ ts ty #[u, y]).run P w = .ok (.tuple #[]) w' ∧ Post P r ow w s r' ow' w' s') := by
  intro d s v s' h
  unfold exDelete at h
  obtain ⟨⟨n, k, a, et, es⟩, s1, h1, h2⟩ := bind_some h
  obtain ⟨rfl, rfl, ⟨kt, j, hD, hK⟩, hg, cm⟩ := mapOf_some h1
  simp only at h2
  obtain ⟨o, sf, hf0, h2⟩ := bind_some h2
  obtain ⟨cf, hff⟩ := findX_some hf0
  have cm := cm.trans cf
  · try simp only at h2
    have hs' : ∃ es2, s' = { sf with h := sf.h.put n (.map es2), W := n :: sf.W } ∧ ((o = none ∧ es2 = es) ∨ ∃ i v, o = some (i, v) ∧ es2 = es.eraseIdx i) := by
      cases o with
      | none => obtain ⟨_, rfl⟩ := wr_some h2; exact ⟨_, rfl, .inl ⟨rfl, rfl⟩⟩
      | some p => obtain ⟨ip, vp⟩ := p; obtain ⟨_, rfl⟩ := wr_some h2; exact ⟨_, rfl, .inr ⟨_, _, rfl, rfl⟩⟩
    obtain ⟨es2, rfl, hes⟩ := hs'
    refine ⟨fun hV => cm.V hV, fun hV r ow w u y hs hfr hu hy => ?_⟩
    have hf := hff hV
    cases hy
    cases hu with
    | map hb =>
    obtain ⟨b, es', kk, q1, q2, q3, q4, q5⟩ := hs.chunk n _ hg
    rename_i b0
    obtain rfl : b = b0 := by rw [hb] at q1; exact (Option.some.inj q1).symm
    obtain ⟨o', g1, g2⟩ := findM_run (j := j) q4 q5 hf
    have hgo : (getObj b).run P w = .ok (.map es' kk) w := by simp [getObj, Sem.run, q3]
    rcases hes with ⟨rfl, rfl⟩ | ⟨i, vv, rfl, rfl⟩
    · cases o' with
      | some _ => exact g2.elim
      | none =>
      refine ⟨r, ow, _, ?_, ⟨Env.Le.refl _, ?_, Frame.upd q2 (upd_setObj (o := .map es' kk) q3), New.refl _ _ _, Nat.le_of_eq cm.c.symm, fun b n e => .inl ⟨b, e⟩⟩⟩
      · simp [Builtin.delete_, hts, run_underlying hD, hgo, run_checkKey hK, Instr.findKey, run_underlying hK, g1, run_setObj q3]
      · show Sat P r ow (sf.h.put n _) _
        rw [cm.h]
        exact hs.upd q2 (upd_setObj q3) ⟨b, es', kk, hb, q2, (upd_setObj q3).at_, q4, q5⟩
    · cases o' with
      | none => exact g2.elim
      | some p =>
      obtain ⟨i', u'⟩ := p
      obtain ⟨rfl, _⟩ := g2
      refine ⟨r, ow, _, ?_, ⟨Env.Le.refl _, ?_, Frame.upd q2 (upd_setObj (o := .map (es'.eraseIdxIfInBounds i) kk) q3), New.refl _ _ _, Nat.le_of_eq cm.c.symm, fun b n e => .inl ⟨b, e⟩⟩⟩
      · simp [Builtin.delete_, hts, run_underlying hD, hgo, run_checkKey hK, Instr.findKey, run_underlying hK, g1, run_setObj q3]
      · show Sat P r ow (sf.h.put n _) _
        rw [cm.h]
        have he : (es'.eraseIdxIfInBounds i).toList = es'.toList.eraseIdx i := by
          unfold Array.eraseIdxIfInBounds
          split
          · simp
          · rename_i hlt; rw [List.eraseIdx_of_length_le (by simpa using hlt)]
        refine hs.upd q2 (upd_setObj q3) ⟨b, _, kk, hb, q2, (upd_setObj q3).at_, ?_, ?_⟩
        · rw [he, map_eraseIdx', map_eraseIdx']; exact relL_eraseIdx q4 i
        · rw [he, map_eraseIdx', map_eraseIdx']; exact relL_eraseIdx q5 i

theorem snd_mapUpdate (t : TypeId) (mv ix x : Value) : SndU P (exMapUpdate P t mv ix x) (fun r m => ∃ u y z, Rel r mv u ∧ Rel r ix y ∧ Rel r x z ∧ m = Instr.mapUpdate t u y z) := by
  intro d s v s' h
  unfold exMapUpdate at h
  obtain ⟨⟨n, k, a, et, es⟩, s1, h1, h2⟩ := bind_some h
  obtain ⟨rfl, rfl, ⟨kt, j, hD, hK⟩, hg, cm⟩ := mapOf_some h1
  simp only at h2
  obtain ⟨o, sf, hf0, h2⟩ := bind_some h2
  obtain ⟨cf, hff⟩ := findX_some hf0
  have cm := cm.trans cf
  · try simp only at h2
    cases o with
    | none =>
      obtain ⟨_, rfl⟩ := wr_some h2
      refine ⟨fun hV => cm.V hV, fun hV r ow w m hs hfr ⟨u, y, z, hu, hy, hz, hm⟩ => ?_⟩
      have hf := hff hV
      cases hy
      cases hu with
      | map hb =>
      obtain ⟨b, es', kk, q1, q2, q3, q4, q5⟩ := hs.chunk n _ hg
      rename_i b0
      obtain rfl : b = b0 := by rw [hb] at q1; exact (Option.some.inj q1).symm
      obtain ⟨o', g1, g2⟩ := findM_run (j := j) q4 q5 hf
      have hgo : (getObj b).run P w = .ok (.map es' kk) w := by simp [getObj, Sem.run, q3]
      cases o' with
      | some _ => exact g2.elim
      | none =>
      refine ⟨r, ow, _, ?_, ⟨Env.Le.refl _, ?_, Frame.upd q2 (upd_setObj (o := .map (es'.push { key := .int k a, val := z, born := kk }) (kk + 1)) q3), New.refl _ _ _, Nat.le_of_eq cm.c.symm, fun b n e => .inl ⟨b, e⟩⟩⟩
      · subst hm
        simp [Instr.mapUpdate, run_underlying hD, hgo, run_checkKey hK, Instr.findKey, run_underlying hK, g1, run_setObj q3]
      · show Sat P r ow (sf.h.put n _) _
        rw [cm.h]
        refine hs.upd q2 (upd_setObj q3) ⟨b, _, _, hb, q2, (upd_setObj q3).at_, ?_, ?_⟩
        · simp only [List.map_append, Array.toList_push]; exact q4.append (.cons (.int _ _) .nil)
        · simp only [List.map_append, Array.toList_push]; exact q5.append (.cons hz .nil)
    | some p =>
      obtain ⟨i, vp⟩ := p
      obtain ⟨_, rfl⟩ := wr_some h2
      refine ⟨fun hV => cm.V hV, fun hV r ow w m hs hfr ⟨u, y, z, hu, hy, hz, hm⟩ => ?_⟩
      have hf := hff hV
      cases hy
      cases hu with
      | map hb =>
      obtain ⟨b, es', kk, q1, q2, q3, q4, q5⟩ := hs.chunk n _ hg
      rename_i b0
      obtain rfl : b = b0 := by rw [hb] at q1; exact (Option.some.inj q1).symm
      obtain ⟨o', g1, g2⟩ := findM_run (j := j) q4 q5 hf
      have hgo : (getObj b).run P w = .ok (.map es' kk) w := by simp [getObj, Sem.run, q3]
      cases o' with
      | none => exact g2.elim
      | some p =>
      obtain ⟨i', u'⟩ := p
      obtain ⟨rfl, _⟩ := g2
      have hkey : ∃ e, es'[i]? = some e ∧ e.key = .int k a := by
        obtain ⟨_, h3⟩ := findM_key hf
        rw [Nat.sub_zero] at h3
        obtain ⟨y, e1, e2⟩ := q4.get i (.int k a) (by simp [h3])
        simp only [List.getElem?_map, Option.map_eq_some_iff] at e1
        obtain ⟨e, e3, e4⟩ := e1
        refine ⟨e, by simpa using e3, ?_⟩
        rw [e4]; cases e2; rfl
      obtain ⟨⟨ek, ev, eb⟩, he1, he2⟩ := hkey
      simp only at he2
      subst he2
      have hks : (Instr.keyThatStays (.int k a) (.int k a)).run P w = .ok (.int k a) w := by simp [Instr.keyThatStays, Instr.sameBits]
      refine ⟨r, ow, _, ?_, ⟨Env.Le.refl _, ?_, Frame.upd q2 (upd_setObj (o := .map (es'.modify i fun e => { e with key := .int k a, val := z }) kk) q3), New.refl _ _ _, Nat.le_of_eq cm.c.symm, fun b n e => .inl ⟨b, e⟩⟩⟩
      · subst hm
        simp [Instr.mapUpdate, run_underlying hD, hgo, run_checkKey hK, Instr.findKey, run_underlying hK, g1, he1, hks, run_setObj q3]
      · show Sat P r ow (sf.h.put n _) _
        rw [cm.h]
        have hlt : i < es'.size := by
          rcases Nat.lt_or_ge i es'.size with h3 | h3
          · exact h3
          · rw [Array.getElem?_eq_none h3] at he1; cases he1
        have he3 : es'[i] = ⟨.int k a, ev, eb⟩ := by
          have h3 := he1
          rw [Array.getElem?_eq_getElem hlt] at h3
          exact Option.some.inj h3
        have hmod : (es'.modify i fun e => { e with key := .int k a, val := z }).toList = es'.toList.set i ⟨.int k a, z, eb⟩ := by
          apply List.ext_getElem?
          intro q
          simp only [Array.getElem?_toList, Array.getElem?_modify, List.getElem?_set]
          by_cases hq : i = q
          · subst hq; simp [hlt, he3]
          · simp [hq]
        refine hs.upd q2 (upd_setObj q3) ⟨b, _, _, hb, q2, (upd_setObj q3).at_, ?_, ?_⟩
        · rw [hmod, setV_keys, List.map_set]
          have : (es'.toList.map (·.key)).set i (.int k a) = es'.toList.map (·.key) := by
            apply List.ext_getElem?
            intro q
            simp only [List.getElem?_set, List.length_map]
            by_cases hq : i = q
            · subst hq; simp [hlt, he3]
            · simp [hq]
          rw [this]; exact q4
        · rw [hmod, setV_vals, List.map_set]; exact q5.set hz i

end
end Go.Sx

namespace Go.Sx
section
variable {P : Program}
theorem Sat.newIter {r : Env} {ow : Nat → Option Nat} {h : Heap} {w : World} (hs : Sat P r ow h w) {n : Nat} (hn : r.blk n = none) (x : ByteArray) :
    Sat P (r.bind n w.heap.size 0) (own ow w.heap.size n) (h.put n (.iter x 0)) { w with heap := w.heap.push (.stringIter x 0) } where
  chunk := fun m c hm => by
    rw [Heap.get_put] at hm
    split at hm
    · rename_i e; subst e; cases hm
      exact ⟨w.heap.size, by simp [Env.bind], by simp [own], by simp⟩
    · rename_i e
      refine Chunk.sat_keep (w := w) (ow := ow) (fun b hb => ?_) (fun b => ?_) (Chunk.sat_mono (Env.le_bind hn) (hs.chunk m c hm))
      · have := hs.bound b m hb
        simp [Array.getElem?_push, Nat.ne_of_lt this]
      · unfold own
        split
        · rename_i e2; subst e2
          exact ⟨fun e3 => absurd (Option.some.inj e3).symm e, fun e3 => absurd (hs.bound _ _ e3) (Nat.lt_irrefl _)⟩
        · exact Iff.rfl
  bound := fun b m hb => by
    unfold own at hb
    split at hb
    · rename_i e; subst e; simp
    · have := hs.bound b m hb; simp; omega
  known := fun b m hb => by
    unfold own at hb
    split at hb
    · cases hb; exact .inl (by simp [Env.bind])
    · exact (Env.le_bind hn).known (hs.known b m hb)
def exRange (P : Program) (t : TypeId) (x : Value) : X Value := match x with
  | .string s => match P.underlying t with
    | some .string => X.bind (X.new (.iter s 0)) fun n => X.pure (.pointer (some ⟨n, 0, none⟩))
    | _ => X.fail
  | _ => X.fail
theorem snd_range (t : TypeId) (x : Value) : Snd P (exRange P t x) (fun r m => ∃ u, Rel r x u ∧ m = Instr.range t u) := by
  intro d s v s' h
  unfold exRange at h
  split at h
  · rename_i sx
    cases hD : P.underlying t with
    | none => simp [hD, X.fail] at h
    | some D =>
      cases D <;> simp only [hD] at h <;> try (simp [X.fail] at h; done)
      obtain ⟨n, s1, h1, h2⟩ := bind_some h
      obtain ⟨rfl, rfl⟩ := new_some h1
      obtain ⟨rfl, rfl⟩ := pure_some h2
      refine ⟨id, fun hV r ow w m hs hf ⟨u, hu, hm⟩ => ?_⟩
      cases hu
      have hn := (hf s.c (Nat.le_refl _) (Nat.lt_succ_self _)).1
      refine ⟨_, _, .pointer (some ⟨w.heap.size, 0, none⟩), _, ?_, ⟨Env.le_bind hn, hs.newIter hn sx, Frame.new _ _, New.bind, Nat.le_succ _, own_new⟩, .ptr (by simp [Env.bind])⟩
      subst hm
      simp [Instr.range, run_underlying hD]
  · simp [X.fail] at h
theorem run_setIter {w : World} {b : Nat} {x : ByteArray} {k : Nat} (h : w.heap[b]? = some (.stringIter x k)) (o : Obj) : (setObj b o).run P w = .ok () { w with heap := w.heap.setIfInBounds b o } := by
  simp [setObj, Sem.run, h]
def exNext (x : Value) : X Value := match x with
  | .pointer (some ⟨n, 0, none⟩) => X.bind (X.rd n) fun c => match c with
    | .iter s pos => X.bind (ask (Nat.blt pos s.data.toList.length)) fun t => match t with
      | true => X.bind (X.wr n (.iter s (pos + (Utf8.decode s pos).2))) fun _ => X.pure (.tuple ⟨[.bool true, .int .i64 (pos : Int), .int .i32 ((Utf8.decode s pos).1 : Int)]⟩)
      | false => X.pure (.tuple ⟨[.bool false]⟩)
    | _ => X.fail
  | _ => X.fail
theorem snd_next (x : Value) (ty : TypeId) : Snd P (exNext x) (fun r m => ∃ u, Rel r x u ∧ m = Instr.next u true ty) := by
  intro d s v s' h
  unfold exNext at h
  split at h
  · rename_i n
    obtain ⟨c, s1, h1, h2⟩ := bind_some h
    obtain ⟨hg, cm⟩ := calm_rd h1
    split at h2
    · rename_i sx pos
      obtain ⟨t, s2, h3, h4⟩ := bind_some h2
      obtain ⟨cm2, ht⟩ := calm_ask h3
      have cm := cm.trans cm2
      cases t with
      | true =>
        simp only at h4
        obtain ⟨_, s3, h5, h6⟩ := bind_some h4
        obtain ⟨_, rfl⟩ := wr_some h5
        obtain ⟨rfl, rfl⟩ := pure_some h6
        refine ⟨fun hV => cm.V hV, fun hV r ow w m hs hf ⟨u, hu, hm⟩ => ?_⟩
        have hb : pos < sx.size := by
          have := ht hV
          rw [Nat.blt_eq] at this
          simpa using this
        cases hu with
        | ptr hbk =>
        obtain ⟨b, q1, q2, q3⟩ := hs.chunk n _ hg
        rename_i b0
        obtain rfl : b = b0 := by rw [hbk] at q1; exact (Option.some.inj q1).symm
        have hgo : (getObj b).run P w = .ok (.stringIter sx pos) w := by simp [getObj, Sem.run, q3]
        refine ⟨r, ow, _, _, ?_, ⟨Env.Le.refl _, ?_, Frame.upd q2 (upd_setObj (o := .stringIter sx (pos + (Utf8.decode sx pos).2)) q3), New.refl _ _ _, Nat.le_of_eq cm.c.symm, fun b n e => .inl ⟨b, e⟩⟩, RelL.mkTuple (.cons (.bool _) (.cons (.int _ _) (.cons (.int _ _) .nil)))⟩
        · subst hm
          simp [Instr.next, hgo, hb, run_setIter q3, goInt]
        · show Sat P r ow (s2.h.put n _) _
          rw [cm.h]
          exact hs.upd q2 (upd_setObj q3) ⟨b, hbk, q2, (upd_setObj q3).at_⟩
      | false =>
        simp only at h4
        obtain ⟨rfl, rfl⟩ := pure_some h4
        refine ⟨cm.V, fun hV r ow w m hs hf ⟨u, hu, hm⟩ => ?_⟩
        have hb : ¬ pos < sx.size := by
          intro q
          have := ht hV
          rw [Bool.eq_false_iff, ne_eq, Nat.blt_eq] at this
          exact this (by simpa using q)
        cases hu with
        | ptr hbk =>
        obtain ⟨b, q1, q2, q3⟩ := hs.chunk n _ hg
        rename_i b0
        obtain rfl : b = b0 := by rw [hbk] at q1; exact (Option.some.inj q1).symm
        have hgo : (getObj b).run P w = .ok (.stringIter sx pos) w := by simp [getObj, Sem.run, q3]
        refine ⟨r, ow, .tuple #[.bool false], w, ?_, Post.calm hs cm, RelL.mkTuple (.cons (.bool _) .nil)⟩
        subst hm
        simp [Instr.next, hgo, hb]
    · simp [X.fail] at h2
  · simp [X.fail] at h
/-- An integer of another kind. -/
def exConv (P : Program) (src dst : TypeId) (x : Value) : X Value := match x with
  | .int _ n => match P.underlying src with
    | some _ => match P.underlying dst with
      | some (.int k) => X.pure (.int k (k.wrap n))
      | _ => X.fail
    | none => X.fail
  | _ => X.fail
theorem snd_conv (src dst : TypeId) (x : Value) : Snd P (exConv P src dst x) (fun r m => ∃ u, Rel r x u ∧ m = convert src dst u) := by
  intro d s v s' h
  unfold exConv at h
  split at h
  · rename_i k0 n
    cases hS : P.underlying src with
    | none => simp [hS, X.fail] at h
    | some S =>
      simp only [hS] at h
      cases hD : P.underlying dst with
      | none => simp [hD, X.fail] at h
      | some D =>
        cases D <;> simp only [hD] at h <;> try (simp [X.fail] at h; done)
        rename_i k
        obtain ⟨rfl, rfl⟩ := pure_some h
        refine ⟨id, fun hV r ow w m hs hf ⟨u, hu, hm⟩ => ?_⟩
        cases hu
        refine ⟨r, ow, .int k (k.wrap n), w, ?_, Post.calm hs (Calm.refl _), .int _ _⟩
        subst hm
        simp [convert, run_underlying hS, run_underlying hD, Conv.intToInt]
  · simp [X.fail] at h
theorem Local.exRange (t : TypeId) (x : Value) : Local (exRange P t x) := by
  unfold Sx.exRange
  repeat' (first | exact Local.pure _ | exact Local.fail | exact Local.new _ | refine Local.bind ?_ fun _ => ?_ | split)
theorem Local.exNext (x : Value) : Local (exNext x) := by
  unfold Sx.exNext
  repeat' (first | exact Local.pure _ | exact Local.fail | exact Local.rd _ | exact Local.wr _ _ | exact Local.ask _ | refine Local.bind ?_ fun _ => ?_ | split)
theorem Local.exConv (src dst : TypeId) (x : Value) : Local (exConv P src dst x) := by
  unfold Sx.exConv
  repeat' (first | exact Local.pure _ | exact Local.fail | split)
end
end Go.Sx

namespace Go.Sx

/-! Operands. -/
def evO (T : List Value) : Operand → Option Value
  | .tmp t => some (T.getD t undef)
  | .const v => match plain v with
    | true => some v
    | false => none
  | .global _ => none
  | .func f => some (.func (.func f) ⟨[]⟩ ⟨[]⟩)
def evL (T : List Value) : List Operand → Option (List Value)
  | [] => some []
  | x :: l => match evO T x with
    | some v => match evL T l with
      | some vs => some (v :: vs)
      | none => none
    | none => none
def evP (T : List Value) : List (Nat × Operand) → Option (List (Nat × Value))
  | [] => some []
  | (i, x) :: l => match evO T x with
    | some v => match evP T l with
      | some vs => some ((i, v) :: vs)
      | none => none
    | none => none
def evQ (T : List Value) : Option Operand → Option (Option Value)
  | none => some none
  | some x => match evO T x with
    | some v => some (some v)
    | none => none

section
variable {r : Env} {T : List Value} {a : Act}
theorem tmp_rel (h : RelL r T a.tmps.toList) (t : Nat) : Rel r (T.getD t undef) (a.tmps.getD t undef) := by
  have hl := h.length
  rw [List.getD_eq_getElem?_getD]
  cases e : T[t]? with
  | some x =>
    obtain ⟨y, e2, hy⟩ := h.get t x e
    have : a.tmps.getD t undef = y := by simp [Array.getD_eq_getD_getElem?, ← Array.getElem?_toList, e2]
    rw [this]; exact hy
  | none =>
    have h1 : T.length ≤ t := by simpa using e
    have h2 : a.tmps[t]? = none := by simp; rw [← Array.length_toList, ← hl]; exact h1
    have : a.tmps.getD t undef = undef := by simp [Array.getD_eq_getD_getElem?, h2]
    rw [this]; exact RelL.mkTuple .nil
theorem evO_rel (h : RelL r T a.tmps.toList) : ∀ {x : Operand} {v : Value}, evO T x = some v → Rel r v (a.eval x)
  | .tmp t, v, e => by simp [evO] at e; subst e; have := tmp_rel h t; simpa [Act.eval] using this
  | .const c, v, e => by
    simp only [evO] at e
    cases hp : plain c with
    | false => simp [hp] at e
    | true => simp [hp] at e; subst e; exact plain_rel hp
  | .global _, v, e => by simp [evO] at e
  | .func f, v, e => by simp [evO] at e; subst e; exact RelL.mkFunc .nil .nil
theorem evL_rel (h : RelL r T a.tmps.toList) : ∀ {l : List Operand} {vs : List Value}, evL T l = some vs → RelL r vs (l.map a.eval)
  | [], vs, e => by simp [evL] at e; subst e; exact .nil
  | x :: l, vs, e => by
    simp only [evL] at e
    cases e1 : evO T x with
    | none => simp [e1] at e
    | some v =>
      simp only [e1] at e
      cases e2 : evL T l with
      | none => simp [e2] at e
      | some us => simp only [e2] at e; cases e; exact .cons (evO_rel h e1) (evL_rel h e2)
theorem evP_rel (h : RelL r T a.tmps.toList) : ∀ {l : List (Nat × Operand)} {vs : List (Nat × Value)}, evP T l = some vs → RelP r vs (l.map fun (i, x) => (i, a.eval x))
  | [], vs, e => by simp [evP] at e; subst e; exact .nil
  | (i, x) :: l, vs, e => by
    simp only [evP] at e
    cases e1 : evO T x with
    | none => simp [e1] at e
    | some v =>
      simp only [e1] at e
      cases e2 : evP T l with
      | none => simp [e2] at e
      | some us => simp only [e2] at e; cases e; exact .cons (evO_rel h e1) (evP_rel h e2)
theorem evQ_rel (h : RelL r T a.tmps.toList) {o : Option Operand} {v : Option Value} (e : evQ T o = some v) : RelO r v (o.map a.eval) := by
  cases o with
  | none => simp [evQ] at e; subst e; exact .none
  | some x =>
    simp only [evQ] at e
    cases e1 : evO T x with
    | none => simp [e1] at e
    | some u => simp only [e1] at e; cases e; exact .some (evO_rel h e1)
end

def exNil : Value → Option Value
  | .pointer (some a) => some (.pointer (some a))
  | .func (.func f) a c => some (.func (.func f) a c)
  | .iface t v => some (.iface t v)
  | _ => none
def exUn (op : UnOp) : Value → Option Value
  | .bool b => match op with
    | .not => some (.bool !b)
    | _ => none
  | .int k n => match op with
    | .neg => some (.int k (k.wrap (0 - n)))
    | _ => none
  | _ => none
def exTup (i : Nat) : Value → Option Value
  | .tuple vs => vs.toList[i]?
  | _ => none
def exMkI (P : Program) (t : TypeId) (x : Value) : Option Value := match P.underlying t with
  | some (.interface _) => none
  | some _ => some (.iface t x)
  | none => none
def exMin : Value → Value → Option Value
  | .int k x, .int _ y => some (.int k (if y < x then y else x))
  | _, _ => none
def exBinary (P : Program) (op : BinOp) (t : TypeId) (o2 : Operand) (x y : Value) : Option Value := match exBin op x y with
  | some v => some v
  | none => match op with
    | .eql => (exEq P t o2 x y).map .bool
    | .neq => (exEq P t o2 x y).map fun b => .bool !b
    | _ => none
/-- Two texts laid together. -/
def catB (a b : ByteArray) : ByteArray := ⟨⟨a.data.toList ++ b.data.toList⟩⟩
theorem catB_eq (a b : ByteArray) : catB a b = a ++ b := by
  apply ByteArray.ext
  apply Array.toList_inj.1
  simp [catB]
def catOf (op : BinOp) (a b : Value) : Option (ByteArray × ByteArray) := match op, a, b with
  | .add, .string p, .string q => some (p, q)
  | _, _, _ => none
theorem catOf_some {op : BinOp} {a b : Value} {p q : ByteArray} (h : catOf op a b = some (p, q)) : op = .add ∧ a = .string p ∧ b = .string q := by
  unfold catOf at h
  split at h
  · cases h; exact ⟨rfl, rfl, rfl⟩
  · cases h
def fnOk (P : Program) (f : FuncId) : Bool := match P.funcs[f]? with
  | some fn => fn.body.isSome && !(fn.name == "runtime.NumGoroutine")
  | none => false
def val (x : X Value) : X OpRes := X.bind x fun v => X.pure (.val v)
def unit (x : X Unit) : X OpRes := X.bind x fun _ => X.pure .unit
def nothing (x : X Unit) : X OpRes := X.bind x fun _ => X.pure (.val (.tuple ⟨[]⟩))

def exBuiltin (P : Program) (b : Builtin) (ts : List TypeId) (as : List Value) : X OpRes := match b, ts, as with
  | .len, [t], [x] => val (exLen P t x)
  | .append, [t, tx], [s, x] => val (exAppend P t tx s x)
  | .min, _, [x, y] => val (opt (exMin x y))
  | .delete, [t, _], [m, k] => nothing (exDelete P t m k)
  | _, _, _ => X.fail

/-- A method of a type that takes its receiver as it is. -/
def methF (P : Program) (t : TypeId) (name : String) : Option FuncId := match P.info? t with
  | none => none
  | some i => match i.methods.find? (fun m => m.name == name) with
    | none => none
    | some m => match m.path.toList with
      | [] => match m.func with
        | some (f, true) => (match P.underlying t with
          | some (.pointer _) => some f
          | _ => none)
        | some (f, false) => (match P.underlying t with
          | some (.pointer _) => none
          | some _ => some f
          | none => none)
        | none => none
      | _ => none
theorem run_tyInfo {P : Program} {t : TypeId} {i : TypeInfo} (h : P.info? t = some i) (w : World) : (typeInfo t).run P w = .ok i w := by
  simp [typeInfo, h]
theorem methF_run {P : Program} {t : TypeId} {name : String} {f : FuncId} (h : methF P t name = some f) (n : Nat) (v : Value) (w : World) : (Go.method (n + 1) t v name).run P w = .ok (f, v) w := by
  unfold methF at h
  cases hi : P.info? t with
  | none => simp [hi] at h
  | some i =>
    simp only [hi] at h
    cases hm : i.methods.find? (fun m => m.name == name) with
    | none => simp [hm] at h
    | some m =>
      simp only [hm] at h
      cases hp : m.path.toList with
      | cons a l => simp [hp] at h
      | nil =>
        simp only [hp] at h
        cases hf : m.func with
        | none => simp [hf] at h
        | some q =>
          obtain ⟨g, pr⟩ := q
          unfold Go.method
          simp only [Sem.run_bind, run_tyInfo hi, Result.andThen_ok, hm, hp, follow, Sem.run_pure, hf]
          cases hu : P.underlying t with
          | none => cases pr <;> simp [hf, hu] at h
          | some D =>
            cases pr <;> cases D <;> simp [hf, hu] at h <;> subst h <;> simp [receiverAt, run_underlying hu, Place.get]
def exBinX (P : Program) (op : BinOp) (t : TypeId) (y : Operand) (a b : Value) : Option (ByteArray × ByteArray) → X OpRes
  | some (p, q) => X.bind (chk (Nat.ble (p.data.toList.length + q.data.toList.length) 9223372036854775807)) fun _ => X.pure (.val (.string (catB p q)))
  | none => val (opt (exBinary P op t y a b))

def exOp (P : Program) (T : List Value) (o : Oper) : X OpRes := match o.op with
  | .move x => val (opt (evO T x))
  | .assign x => val (opt (evO T x))
  | .pick c x y => X.bind (opt (evO T c)) fun c => match c with
    | .bool b => X.bind (ask b) fun t => match t with
      | true => val (opt (evO T x))
      | false => val (opt (evO T y))
    | _ => X.fail
  | .alloc t => val (X.bind (zeroV P t) fun z => exBox P t z)
  | .box t x => X.bind (opt (evO T x)) fun v => val (exBox P t v)
  | .build t ps => X.bind (opt (evP T ps.toList)) fun l => val (exBuild P t l)
  | .buildSlice t n ps => X.bind (opt (evP T ps.toList)) fun l => val (exBuildSlice P t n l)
  | .load t x => X.bind (opt (evO T x)) fun a => val (exLoad P t a)
  | .store t x y => X.bind (opt (evO T x)) fun a => X.bind (opt (evO T y)) fun v => unit (exStore P t a v)
  | .nilCheck x => X.bind (opt (evO T x)) fun v => val (opt (exNil v))
  | .binOp op t x y _ => X.bind (opt (evO T x)) fun a => X.bind (opt (evO T y)) fun b => exBinX P op t y a b (catOf op a b)
  | .unOp op _ x => X.bind (opt (evO T x)) fun v => val (opt (exUn op v))
  | .makeInterface t x => X.bind (opt (evO T x)) fun v => val (opt (exMkI P t v))
  | .makeFunc fn f c => X.bind (opt (evL T f.toList)) fun f => X.bind (opt (evL T c.toList)) fun c => match fn with
    | .func g => X.pure (.val (.func (.func g) ⟨f⟩ ⟨c⟩))
    | _ => X.fail
  | .makeMap _ none => val (X.bind (X.new (.map [])) fun n => X.pure (.map (some n)))
  | .range t x => X.bind (opt (evO T x)) fun v => val (exRange P t v)
  | .next x true => X.bind (opt (evO T x)) fun v => val (exNext v)
  | .convert src dst x => X.bind (opt (evO T x)) fun v => val (exConv P src dst v)
  | .makeSlice t l c => X.bind (opt (evO T l)) fun l => X.bind (opt (evO T c)) fun c => val (exMakeSlice P t l c)
  | .slice t x lo hi mx => X.bind (opt (evO T x)) fun v => X.bind (opt (evQ T lo)) fun lo => X.bind (opt (evQ T hi)) fun hi => X.bind (opt (evQ T mx)) fun mx => val (exSlice P t v lo hi mx)
  | .fieldAddr t x f => X.bind (opt (evO T x)) fun v => val (exFieldAddr P t v f)
  | .field t x f => X.bind (opt (evO T x)) fun v => val (exField P t v f)
  | .indexAddr t x i => X.bind (opt (evO T x)) fun v => X.bind (opt (evO T i)) fun i => val (exIndexAddr P t v i)
  | .index t x i => X.bind (opt (evO T x)) fun v => X.bind (opt (evO T i)) fun i => val (exIndex P t v i)
  | .lookup t x i ok => X.bind (opt (evO T x)) fun v => X.bind (opt (evO T i)) fun i => val (exLookup P t v i ok)
  | .mapUpdate t m k v => X.bind (opt (evO T m)) fun m => X.bind (opt (evO T k)) fun k => X.bind (opt (evO T v)) fun v => unit (exMapUpdate P t m k v)
  | .extract x i => X.bind (opt (evO T x)) fun v => val (opt (exTup i v))
  | .call c => X.bind (opt (evL T c.args.toList)) fun as => match c.callee with
    | .value f => X.bind (opt (evO T f)) fun fv => match fv with
      | .func (.func g) first cap => X.bind (need (fnOk P g)) fun _ => X.pure (.call g (first.toList ++ as ++ cap.toList))
      | _ => X.fail
    | .builtin b => exBuiltin P b c.argTypes.toList as
    | .invoke r name => X.bind (opt (evO T r)) fun rv => match rv with
      | .iface t v => X.bind (opt (methF P t name)) fun g => X.bind (need (fnOk P g)) fun _ => X.pure (.call g (v :: as))
      | _ => X.fail
  | _ => X.fail

theorem Local.exBuild (P : Program) (t : TypeId) (ps : List (Nat × Value)) : Local (exBuild P t ps) := by
  unfold Sx.exBuild
  repeat' (first | exact Local.pure _ | exact Local.fail | exact Local.rd _ | exact Local.wr _ _ | exact Local.drop _ | exact Local.new _ | exact Local.opt _ | exact Local.need _ | exact Local.ask _ | exact Local.chk _ | exact Local.addrOf _ | exact Local.szOf _ _ | exact Local.aggT _ _ | exact Local.zeroV _ _ | exact Local.readCells _ _ _ | refine Local.bind ?_ fun _ => ?_ | split)

theorem Local.exBuildSlice (P : Program) (t : TypeId) (n : Nat) (ps : List (Nat × Value)) : Local (exBuildSlice P t n ps) := by
  unfold Sx.exBuildSlice
  repeat' (first | exact Local.pure _ | exact Local.fail | exact Local.rd _ | exact Local.wr _ _ | exact Local.drop _ | exact Local.new _ | exact Local.opt _ | exact Local.need _ | exact Local.ask _ | exact Local.chk _ | exact Local.addrOf _ | exact Local.szOf _ _ | exact Local.aggT _ _ | exact Local.zeroV _ _ | exact Local.readCells _ _ _ | refine Local.bind ?_ fun _ => ?_ | split | unfold Sx.exRow)

theorem Local.exFieldAddr (P : Program) (t : TypeId) (a : Value) (i : Nat) : Local (exFieldAddr P t a i) := by
  unfold Sx.exFieldAddr
  repeat' (first | exact Local.pure _ | exact Local.fail | exact Local.rd _ | exact Local.wr _ _ | exact Local.drop _ | exact Local.new _ | exact Local.opt _ | exact Local.need _ | exact Local.ask _ | exact Local.chk _ | exact Local.addrOf _ | exact Local.placeOf _ | exact Local.szOf _ _ | exact Local.aggT _ _ | exact Local.zeroV _ _ | exact Local.readCells _ _ _ | refine Local.bind ?_ fun _ => ?_ | split)

theorem Local.exField (P : Program) (t : TypeId) (a : Value) (i : Nat) : Local (exField P t a i) := by
  unfold Sx.exField
  repeat' (first | exact Local.pure _ | exact Local.fail | exact Local.rd _ | exact Local.wr _ _ | exact Local.drop _ | exact Local.new _ | exact Local.opt _ | exact Local.need _ | exact Local.ask _ | exact Local.chk _ | exact Local.addrOf _ | exact Local.szOf _ _ | exact Local.aggT _ _ | exact Local.zeroV _ _ | exact Local.readCells _ _ _ | refine Local.bind ?_ fun _ => ?_ | split)

theorem Local.exIndexAddr (P : Program) (t : TypeId) (a b : Value) : Local (exIndexAddr P t a b) := by
  unfold Sx.exIndexAddr
  repeat' (first | exact Local.pure _ | exact Local.fail | exact Local.rd _ | exact Local.wr _ _ | exact Local.drop _ | exact Local.new _ | exact Local.opt _ | exact Local.need _ | exact Local.ask _ | exact Local.chk _ | exact Local.addrOf _ | exact Local.szOf _ _ | exact Local.aggT _ _ | exact Local.zeroV _ _ | exact Local.readCells _ _ _ | refine Local.bind ?_ fun _ => ?_ | split)

theorem Local.exIndex (P : Program) (t : TypeId) (a b : Value) : Local (exIndex P t a b) := by
  unfold Sx.exIndex
  repeat' (first | exact Local.pure _ | exact Local.fail | exact Local.rd _ | exact Local.wr _ _ | exact Local.drop _ | exact Local.new _ | exact Local.opt _ | exact Local.need _ | exact Local.ask _ | exact Local.chk _ | exact Local.addrOf _ | exact Local.szOf _ _ | exact Local.aggT _ _ | exact Local.zeroV _ _ | exact Local.readCells _ _ _ | refine Local.bind ?_ fun _ => ?_ | split)

theorem Local.exLen (P : Program) (t : TypeId) (a : Value) : Local (exLen P t a) := by
  unfold Sx.exLen
  repeat' (first | exact Local.pure _ | exact Local.fail | exact Local.rd _ | exact Local.wr _ _ | exact Local.drop _ | exact Local.new _ | exact Local.opt _ | exact Local.need _ | exact Local.ask _ | exact Local.chk _ | exact Local.addrOf _ | exact Local.szOf _ _ | exact Local.aggT _ _ | exact Local.zeroV _ _ | exact Local.readCells _ _ _ | refine Local.bind ?_ fun _ => ?_ | split)

theorem Local.exMakeSlice (P : Program) (t : TypeId) (a b : Value) : Local (exMakeSlice P t a b) := by
  unfold Sx.exMakeSlice
  repeat' (first | exact Local.pure _ | exact Local.fail | exact Local.rd _ | exact Local.wr _ _ | exact Local.drop _ | exact Local.new _ | exact Local.opt _ | exact Local.need _ | exact Local.ask _ | exact Local.chk _ | exact Local.addrOf _ | exact Local.szOf _ _ | exact Local.aggT _ _ | exact Local.zeroV _ _ | exact Local.readCells _ _ _ | refine Local.bind ?_ fun _ => ?_ | split | unfold Sx.exRow | unfold Sx.zeroOk)

theorem Local.exSlice (P : Program) (t : TypeId) (x : Value) (lo hi mx : Option Value) : Local (exSlice P t x lo hi mx) := by
  unfold Sx.exSlice
  repeat' (first | exact Local.pure _ | exact Local.fail | exact Local.rd _ | exact Local.wr _ _ | exact Local.drop _ | exact Local.new _ | exact Local.opt _ | exact Local.need _ | exact Local.ask _ | exact Local.chk _ | exact Local.addrOf _ | exact Local.szOf _ _ | exact Local.aggT _ _ | exact Local.zeroV _ _ | exact Local.readCells _ _ _ | refine Local.bind ?_ fun _ => ?_ | split)

theorem Local.exAppendN (P : Program) (t tx : TypeId) (a b : Value) : Local (exAppendN P t tx a b) := by
  unfold Sx.exAppendN
  repeat' (first | exact Local.pure _ | exact Local.fail | exact Local.rd _ | exact Local.wr _ _ | exact Local.drop _ | exact Local.new _ | exact Local.opt _ | exact Local.need _ | exact Local.ask _ | exact Local.chk _ | exact Local.addrOf _ | exact Local.szOf _ _ | exact Local.aggT _ _ | exact Local.zeroV _ _ | exact Local.readCells _ _ _ | refine Local.bind ?_ fun _ => ?_ | split | unfold Sx.exAppend1 | unfold Sx.zeroOk | unfold Sx.rowType | unfold Sx.exRow)
theorem Local.exAppendB (P : Program) (t tx : TypeId) (n : Nat) (b : Value) : Local (exAppendB P t tx n b) := by
  unfold Sx.exAppendB
  repeat' (first | exact Local.pure _ | exact Local.fail | exact Local.rd _ | exact Local.wr _ _ | exact Local.drop _ | exact Local.new _ | exact Local.opt _ | exact Local.need _ | exact Local.ask _ | exact Local.chk _ | exact Local.addrOf _ | exact Local.szOf _ _ | exact Local.aggT _ _ | exact Local.zeroV _ _ | exact Local.readCells _ _ _ | refine Local.bind ?_ fun _ => ?_ | split | unfold Sx.exAppend1 | unfold Sx.zeroOk | unfold Sx.rowType | unfold Sx.exRow)
theorem Local.exAppend (P : Program) (t tx : TypeId) (a b : Value) : Local (exAppend P t tx a b) := by
  unfold Sx.exAppend
  split
  · exact Local.exAppendB _ _ _ _ _
  · exact Local.exAppendN _ _ _ _ _

theorem Local.findX (k : IntKind) (a : Int) : ∀ (es : List (Value × Value)) (i : Nat), Local (findX k a es i)
  | [], _ => Local.pure _
  | (kx, vx) :: es, i => by
    cases kx <;> unfold Sx.findX <;> try exact Local.fail
    split
    · refine Local.bind (Local.ask _) fun t => ?_
      cases t
      · exact Local.findX k a es (i + 1)
      · exact Local.pure _
    · exact Local.fail
theorem Local.exLookup (P : Program) (t : TypeId) (a b : Value) (ok : Bool) : Local (exLookup P t a b ok) := by
  unfold Sx.exLookup
  repeat' (first | exact Local.pure _ | exact Local.fail | exact Local.rd _ | exact Local.wr _ _ | exact Local.drop _ | exact Local.new _ | exact Local.opt _ | exact Local.need _ | exact Local.ask _ | exact Local.chk _ | exact Local.addrOf _ | exact Local.szOf _ _ | exact Local.aggT _ _ | exact Local.zeroV _ _ | exact Local.readCells _ _ _ | exact Local.findX _ _ _ _ | refine Local.bind ?_ fun _ => ?_ | split | unfold Sx.mapOf)

theorem Local.exMapUpdate (P : Program) (t : TypeId) (a b c : Value) : Local (exMapUpdate P t a b c) := by
  unfold Sx.exMapUpdate
  repeat' (first | exact Local.pure _ | exact Local.fail | exact Local.rd _ | exact Local.wr _ _ | exact Local.drop _ | exact Local.new _ | exact Local.opt _ | exact Local.need _ | exact Local.ask _ | exact Local.chk _ | exact Local.addrOf _ | exact Local.szOf _ _ | exact Local.aggT _ _ | exact Local.zeroV _ _ | exact Local.readCells _ _ _ | exact Local.findX _ _ _ _ | refine Local.bind ?_ fun _ => ?_ | split | unfold Sx.mapOf)

theorem Local.exDelete (P : Program) (t : TypeId) (a b : Value) : Local (exDelete P t a b) := by
  unfold Sx.exDelete
  repeat' (first | exact Local.pure _ | exact Local.fail | exact Local.rd _ | exact Local.wr _ _ | exact Local.drop _ | exact Local.new _ | exact Local.opt _ | exact Local.need _ | exact Local.ask _ | exact Local.chk _ | exact Local.addrOf _ | exact Local.szOf _ _ | exact Local.aggT _ _ | exact Local.zeroV _ _ | exact Local.readCells _ _ _ | exact Local.findX _ _ _ _ | refine Local.bind ?_ fun _ => ?_ | split | unfold Sx.mapOf)

theorem Local.exOp (P : Program) (T : List Value) (o : Oper) : Local (exOp P T o) := by
  unfold Sx.exOp Sx.val Sx.unit
  repeat' (first | exact Local.pure _ | exact Local.fail | exact Local.rd _ | exact Local.wr _ _ | exact Local.drop _ | exact Local.new _ | exact Local.opt _ | exact Local.need _ | exact Local.ask _ | exact Local.chk _ | exact Local.addrOf _ | exact Local.szOf _ _ | exact Local.aggT _ _ | exact Local.zeroV _ _ | exact Local.readCells _ _ _ | exact Local.exBox _ _ _ | exact Local.exLoad _ _ _ | exact Local.exStore _ _ _ _ | exact Local.exBuild _ _ _ | exact Local.exBuildSlice _ _ _ _ | exact Local.exFieldAddr _ _ _ _ | exact Local.exField _ _ _ _ | exact Local.exIndexAddr _ _ _ _ | exact Local.exIndex _ _ _ _ | exact Local.exLen _ _ _ | exact Local.exMakeSlice _ _ _ _ | exact Local.exSlice _ _ _ _ _ _ | exact Local.exAppend _ _ _ _ _ | exact Local.exLookup _ _ _ _ _ | exact Local.exMapUpdate _ _ _ _ _ | exact Local.exDelete _ _ _ _ | exact Local.exRange _ _ | exact Local.exNext _ | exact Local.exConv _ _ _ | refine Local.bind ?_ fun _ => ?_ | split | unfold Sx.exBuiltin Sx.val Sx.nothing | unfold Sx.exBinX)

end Go.Sx

namespace Go.Sx

def OpSnd (P : Program) (x : X OpRes) (A : Env → Sem Next → Prop) : Prop :=
  ∀ d s v s', x d s = some (v, s') → (VCs s'.V → VCs s.V) ∧ (VCs s'.V → ∀ r ow w m, Sat P r ow s.h w → Fresh r s.c s'.c → A r m →
    ∃ r' ow' n w', m.run P w = .ok n w' ∧ Post P r ow w s r' ow' w' s' ∧ NextRel r' v n)

section
variable {P : Program}
theorem OpSnd.mono {x : X OpRes} {A B : Env → Sem Next → Prop} (h : OpSnd P x A) (hab : ∀ r m, B r m → A r m) : OpSnd P x B := fun d s v s' hx =>
  ⟨(h d s v s' hx).1, fun hV r ow w m hs hf hm => (h d s v s' hx).2 hV r ow w m hs hf (hab r m hm)⟩
theorem OpSnd.val {x : X Value} {A : Env → Sem Value → Prop} (h : Snd P x A) : OpSnd P (Sx.val x) (fun r m => ∃ m0, A r m0 ∧ m = (do pure (Next.value (← m0)))) := by
  intro d s v s' hx
  obtain ⟨u, s1, h1, h2⟩ := bind_some hx
  obtain ⟨rfl, rfl⟩ := pure_some h2
  refine ⟨(h d s u s1 h1).1, fun hV r ow w m hs hf ⟨m0, ha, hm⟩ => ?_⟩
  obtain ⟨r', ow', z, w', g1, g2, g3⟩ := (h d s u s1 h1).2 hV r ow w m0 hs hf ha
  exact ⟨r', ow', .value z, w', by subst hm; simp [g1], g2, g3⟩
theorem OpSnd.unit {x : X Unit} {A : Env → Sem Unit → Prop} (h : SndU P x A) : OpSnd P (Sx.unit x) (fun r m => ∃ m0, A r m0 ∧ m = (do m0; pure Next.skip)) := by
  intro d s v s' hx
  obtain ⟨u, s1, h1, h2⟩ := bind_some hx
  obtain ⟨rfl, rfl⟩ := pure_some h2
  refine ⟨(h d s u s1 h1).1, fun hV r ow w m hs hf ⟨m0, ha, hm⟩ => ?_⟩
  obtain ⟨r', ow', w', g1, g2⟩ := (h d s u s1 h1).2 hV r ow w m0 hs hf ha
  exact ⟨r', ow', .skip, w', by subst hm; simp [g1], g2, trivial⟩
theorem OpSnd.opt {α : Type} {o : Option α} {f : α → X OpRes} {A : Env → Sem Next → Prop} (h : ∀ a, o = some a → OpSnd P (f a) A) : OpSnd P (X.bind (Sx.opt o) f) A := by
  intro d s v s' hx
  obtain ⟨u, s1, h1, h2⟩ := bind_some hx
  obtain ⟨e, rfl⟩ := opt_some h1
  exact h u e d s v s' h2
theorem OpSnd.fail {A : Env → Sem Next → Prop} : OpSnd P X.fail A := fun d s v s' h => by simp [X.fail] at h
theorem snd_opt {o : Option Value} : Snd P (Sx.opt o) (fun r m => ∃ v, o = some v ∧ ∃ u, Rel r v u ∧ ∀ w, m.run P w = .ok u w) := by
  intro d s v s' h
  obtain ⟨e, rfl⟩ := opt_some h
  refine ⟨id, fun hV r ow w m hs hf ⟨v', e', u, hu, hm⟩ => ?_⟩
  obtain rfl : v = v' := by rw [e] at e'; exact Option.some.inj e'
  exact ⟨r, ow, u, w, hm w, Post.calm hs (Calm.refl _), hu⟩
theorem OpSnd.pureVal {v : Value} : OpSnd P (X.pure (.val v)) (fun r m => ∃ u, Rel r v u ∧ ∀ w, m.run P w = .ok (.value u) w) := by
  intro d s v' s' h
  obtain ⟨rfl, rfl⟩ := pure_some h
  exact ⟨id, fun hV r ow w m hs hf ⟨u, hu, hm⟩ => ⟨r, ow, .value u, w, hm w, Post.calm hs (Calm.refl _), hu⟩⟩
theorem OpSnd.pureCall {f : FuncId} {as : List Value} : OpSnd P (X.pure (.call f as)) (fun r m => ∃ us : Array Value, RelL r as us.toList ∧ ∀ w, m.run P w = .ok (.enter f us) w) := by
  intro d s v' s' h
  obtain ⟨rfl, rfl⟩ := pure_some h
  exact ⟨id, fun hV r ow w m hs hf ⟨us, hu, hm⟩ => ⟨r, ow, .enter f us, w, hm w, Post.calm hs (Calm.refl _), rfl, hu⟩⟩
theorem snd_newMap : Snd P (X.bind (X.new (.map [])) fun n => X.pure (.map (some n))) (fun _ m => m = (do pure (.map (some (← newObj (.map #[] 0)))))) := by
  intro d s v s' h
  obtain ⟨n, s1, h1, h2⟩ := bind_some h
  obtain ⟨rfl, rfl⟩ := new_some h1
  obtain ⟨rfl, rfl⟩ := pure_some h2
  refine ⟨id, fun hV r ow w m hs hf hm => ?_⟩
  have hn := (hf s.c (Nat.le_refl _) (Nat.lt_succ_self _)).1
  exact ⟨_, _, .map (some w.heap.size), _, by subst hm; simp, ⟨Env.le_bind hn, hs.newMap hn, Frame.new _ _, New.bind, Nat.le_succ _, own_new⟩, .map (by simp [Env.bind])⟩
theorem snd_ofVal {x : X Value} {A : Env → Sem Value → Prop} (h : Snd P x A) : Snd P x A := h

theorem exNil_run {r : Env} {x v u : Value} (h : exNil x = some v) (hu : Rel r x u) : Rel r v u ∧ ∀ (o : Operand) (ρ : Operand → Value), ρ o = u → ∀ w, (match ρ o with
    | .pointer none | .nilIface | .nilFunc => runtimePanic .nilDeref
    | .func (.method name) first captured =>
      match (first[0]? : Option Value) with
      | some .nilIface => runtimePanic .nilDeref
      | some (.iface t w) => do
        if (← nilAhead ((← program).types.size + Made.depth) t w name) != some false then
          unsupported (.noEntry "op/nilCheck.the method's receiver behind this interface value is a nil pointer, or cannot be seen to be none, and the arguments act or may panic (ledger 612)")
        pure (.value (.func (.method name) first captured))
      | _ => pure (.value (.func (.method name) first captured))
    | x => pure (.value x) : Sem Next).run P w = .ok (.value u) w := by
  unfold exNil at h
  split at h <;> cases h
  · cases hu with
    | ptr hb => exact ⟨.ptr hb, fun o ρ e w => by rw [e]; rfl⟩
    | litPtr => exact ⟨.litPtr, fun o ρ e w => by rw [e]; rfl⟩
  · obtain ⟨us, cs, rfl, _, _⟩ := hu.func_inv
    exact ⟨hu, fun o ρ e w => by rw [e]; rfl⟩
  · cases hu with | iface hb => exact ⟨.iface hb, fun o ρ e w => by rw [e]; rfl⟩

theorem exTup_run {r : Env} {x v u : Value} {i : Nat} (h : exTup i x = some v) (hu : Rel r x u) : ∃ y, Rel r v y ∧ ∀ w, (Instr.extract u i).run P w = .ok y w := by
  unfold exTup at h
  split at h
  · obtain ⟨us, rfl, hr⟩ := hu.tuple_inv
    obtain ⟨y, e, hy⟩ := hr.get i v h
    have e' : us[i]? = some y := by rw [← e]; simp
    exact ⟨y, hy, fun w => by simp [Instr.extract, e']⟩
  · cases h
theorem exUn_run {r : Env} {op : UnOp} {x v u : Value} (h : exUn op x = some v) (hu : Rel r x u) : Rel r v v ∧ ∀ w, (Op.unary op u).run P w = .ok v w := by
  unfold exUn at h
  split at h
  · cases hu
    cases op <;> simp at h
    subst h; exact ⟨.bool _, fun w => by simp [Op.unary]⟩
  · cases hu
    cases op <;> simp at h
    subst h; exact ⟨.int _ _, fun w => by simp [Op.unary, Op.intArith]⟩
  · cases h
theorem exMkI_run {r : Env} {t : TypeId} {x v u : Value} (h : exMkI P t x = some v) (hu : Rel r x u) : Rel r v (.iface t u) ∧ ∀ w, (Instr.makeInterface t u).run P w = .ok (.iface t u) w := by
  unfold exMkI at h
  cases hD : P.underlying t with
  | none => simp [hD] at h
  | some D =>
    cases D <;> simp [hD] at h <;> (subst h; exact ⟨.iface hu, fun w => by simp [Instr.makeInterface, run_underlying hD]⟩)
theorem exBinary_run {r : Env} {op : BinOp} {t : TypeId} {o1 o2 : Operand} {x y v u1 u2 : Value} (h : exBinary P op t o2 x y = some v) (h1 : Rel r x u1) (h2 : Rel r y u2) (w : World) :
    (do eqGuard op t o1 o2 u1 u2; binOp op t u1 u2 : Sem Value).run P w = .ok v w ∧ Rel r v v := by
  unfold exBinary at h
  cases e : exBin op x y with
  | some v' => simp only [e] at h; cases h; exact exBin_run e h1 h2 w
  | none =>
    simp only [e] at h
    cases op <;> simp only [Option.map_eq_some_iff] at h <;> try (cases h; done)
    · obtain ⟨b, e2, rfl⟩ := h
      exact ⟨(exEq_run (o1 := o1) e2 h1 h2 w).1, .bool _⟩
    · obtain ⟨b, e2, rfl⟩ := h
      exact ⟨(exEq_run (o1 := o1) e2 h1 h2 w).2, .bool _⟩
theorem exMin_run {r : Env} {ts : Array TypeId} {t : TypeId} {x y v u1 u2 : Value} (h : exMin x y = some v) (h1 : Rel r x u1) (h2 : Rel r y u2) (w : World) : (Builtin.min_ ts t #[u1, u2]).run P w = .ok v w ∧ Rel r v v := by
  unfold exMin at h
  split at h
  · cases h1; cases h2; cases h; exact ⟨run_min_int2 w ts t _ _ _ _, .int _ _⟩
  · cases h
theorem fnOk_run {f : FuncId} (h : fnOk P f = true) (us : Array Value) (w : World) : (callFunc f us).run P w = .ok (.enter f us) w := by
  unfold fnOk at h
  cases e : P.funcs[f]? with
  | none => simp [e] at h
  | some fn =>
    simp only [e, Bool.and_eq_true, Bool.not_eq_true'] at h
    have h2 : fn.body.isNone = false := by
      cases hb : fn.body with
      | none => simp [hb] at h
      | some _ => rfl
    simp only [callFunc, Sem.run_bind, run_program, Result.andThen_ok, e, h.2, h2, Bool.false_eq_true, if_false]
    rfl

/-- What a model's operation is, beside the symbolic one. -/
def opA (T : List Value) (o : Oper) (r : Env) (m : Sem Next) : Prop := ∃ a : Act, RelL r T a.tmps.toList ∧ m = execOp a.eval o

theorem OpSnd.valOpt {o : Option Value} {A : Env → Sem Next → Prop} (h : ∀ v, o = some v → ∀ r m, A r m → ∃ u, Rel r v u ∧ ∀ w, m.run P w = .ok (.value u) w) : OpSnd P (Sx.val (Sx.opt o)) A := by
  intro d s v s' hx
  obtain ⟨u, s1, h1, h2⟩ := bind_some hx
  obtain ⟨e, rfl⟩ := opt_some h1
  obtain ⟨rfl, rfl⟩ := pure_some h2
  refine ⟨id, fun hV r ow w m hs hf hm => ?_⟩
  obtain ⟨y, hy, hr⟩ := h u e r m hm
  exact ⟨r, ow, .value y, w, hr w, Post.calm hs (Calm.refl _), hy⟩
theorem OpSnd.need {b : Bool} {f : Unit → X OpRes} {A : Env → Sem Next → Prop} (h : b = true → OpSnd P (f ()) A) : OpSnd P (X.bind (Sx.need b) f) A := by
  intro d s v s' hx
  obtain ⟨u, s1, h1, h2⟩ := bind_some hx
  obtain ⟨e, rfl⟩ := need_some h1
  exact h e d s v s' h2

theorem exBuiltin_snd (b : Builtin) (ts : List TypeId) (as : List Value) (ty : TypeId) (cs : Array Bool) : OpSnd P (exBuiltin P b ts as) (fun r m => ∃ us, RelL r as us ∧ m = builtin b ⟨ts⟩ ty cs ⟨us⟩) := by
  unfold exBuiltin
  split
  · refine (OpSnd.val (snd_len _ ty _)).mono fun r m ⟨us, hu, hm⟩ => ?_
    cases hu with | cons h1 t => cases t; exact ⟨_, ⟨_, h1, rfl⟩, hm⟩
  · refine (OpSnd.val (snd_append _ _ ty _ _)).mono fun r m ⟨us, hu, hm⟩ => ?_
    cases hu with | cons h1 t => cases t with | cons h2 t => cases t; exact ⟨_, ⟨_, _, h1, h2, rfl⟩, hm⟩
  · refine OpSnd.valOpt fun v e r m ⟨us, hu, hm⟩ => ?_
    cases hu with | cons h1 t => cases t with | cons h2 t => cases t; exact ⟨v, (exMin_run (P := P) (ts := #[]) (t := 0) e h1 h2 default).2, fun w => by
      subst hm
      have := (exMin_run (P := P) (ts := ⟨ts⟩) (t := ty) e h1 h2 w).1
      simp only [builtin, Sem.run_bind, this, Result.andThen_ok]; rfl⟩
  · rename_i t0 t1 mv kv
    intro d s v s' hx
    obtain ⟨u, s1, h1, h2⟩ := bind_some hx
    obtain ⟨rfl, rfl⟩ := pure_some h2
    obtain ⟨g1, g2⟩ := snd_delete t0 ty mv kv (ts := ⟨[t0, t1]⟩) rfl d s u s1 h1
    refine ⟨g1, fun hV r ow w m hs hf ⟨us, hu, hm⟩ => ?_⟩
    cases hu with | cons h1 t => cases t with | cons h2 t => cases t with | nil =>
    rename_i u1 u2
    obtain ⟨r', ow', w', e1, e2⟩ := g2 hV r ow w u1 u2 hs hf h1 h2
    refine ⟨r', ow', .value (.tuple #[]), w', ?_, e2, RelL.mkTuple .nil⟩
    subst hm
    show (Builtin.delete_ ⟨[t0, t1]⟩ ty #[u1, u2] >>= fun v => pure (Next.value v)).run P w = _
    simp [e1]
  · exact OpSnd.fail

theorem exOp_snd (T : List Value) (o : Oper) : OpSnd P (exOp P T o) (opA T o) := by
  obtain ⟨dst, op, ty, pos, after, guard⟩ := o
  cases op with
  | insert _ _ _ _ | ready _ | waits _ | sliceToArrayPointer _ _ | makeChan _ _ | mapEntry _ _ _ | entryStore _ _ _ _ | entry _ | typeAssert _ _ _ _ | go _ | defer _ | panic _ | send _ _ | recv _ _ _ | select _ _ => exact OpSnd.fail
  | move x =>
    refine OpSnd.valOpt (o := evO T x) fun v e r m ⟨a, ha, hm⟩ => ⟨a.eval x, evO_rel ha e, fun w => ?_⟩
    subst hm; rfl
  | assign x =>
    refine OpSnd.valOpt (o := evO T x) fun v e r m ⟨a, ha, hm⟩ => ⟨a.eval x, evO_rel ha e, fun w => ?_⟩
    subst hm; rfl
  | pick c x y =>
    refine OpSnd.opt (o := evO T c) fun cv ec => ?_
    split
    · rename_i b
      intro d s v s' h
      obtain ⟨t, s1, h1, h2⟩ := bind_some h
      obtain ⟨cm, hb⟩ := calm_ask h1
      have hsel : ∃ z, (t = true ∧ z = x ∨ t = false ∧ z = y) ∧ Sx.val (Sx.opt (evO T z)) d s1 = some (v, s') := by
        cases t
        · exact ⟨y, .inr ⟨rfl, rfl⟩, h2⟩
        · exact ⟨x, .inl ⟨rfl, rfl⟩, h2⟩
      obtain ⟨z, hz, h3⟩ := hsel
      obtain ⟨u, s2, h4, h5⟩ := bind_some h3
      obtain ⟨e, rfl⟩ := opt_some h4
      obtain ⟨rfl, rfl⟩ := pure_some h5
      refine ⟨cm.V, fun hV r ow w m hs hf ⟨a, ha, hm⟩ => ⟨r, ow, .value (a.eval z), w, ?_, Post.calm hs cm, evO_rel ha e⟩⟩
      have hc := evO_rel ha ec
      have hbt := hb hV
      subst hbt
      generalize hq : a.eval c = q at hc
      cases hc
      subst hm
      rcases hz with ⟨rfl, rfl⟩ | ⟨rfl, rfl⟩ <;> simp [execOp, hq, asBool]
    · exact OpSnd.fail
  | alloc t =>
    exact (OpSnd.val (snd_alloc P t)).mono fun r m ⟨a, ha, hm⟩ => ⟨_, rfl, hm⟩
  | box t x =>
    exact OpSnd.opt (o := evO T x) fun v e => (OpSnd.val (snd_box P t v)).mono fun r m ⟨a, ha, hm⟩ => ⟨_, ⟨_, evO_rel ha e, rfl⟩, hm⟩
  | build t ps =>
    exact OpSnd.opt (o := evP T ps.toList) fun v e => (OpSnd.val (snd_build P t v)).mono fun r m ⟨a, ha, hm⟩ => ⟨_, ⟨_, evP_rel ha e, rfl⟩, by
      subst hm
      show execOp a.eval ⟨dst, .build t ps, ty, pos, after, guard⟩ = _
      have : (⟨ps.toList.map fun (i, x) => (i, a.eval x)⟩ : Array (Nat × Value)) = ps.map fun (i, x) => (i, a.eval x) := by apply Array.ext'; simp
      rw [this]; rfl⟩
  | buildSlice t n ps =>
    exact OpSnd.opt (o := evP T ps.toList) fun v e => (OpSnd.val (snd_buildSlice t n v)).mono fun r m ⟨a, ha, hm⟩ => ⟨_, ⟨_, evP_rel ha e, rfl⟩, by
      subst hm
      have : (⟨ps.toList.map fun (i, x) => (i, a.eval x)⟩ : Array (Nat × Value)) = ps.map fun (i, x) => (i, a.eval x) := by apply Array.ext'; simp
      rw [this]; rfl⟩
  | load t x =>
    exact OpSnd.opt (o := evO T x) fun v e => (OpSnd.val (snd_load P t v)).mono fun r m ⟨a, ha, hm⟩ => ⟨_, ⟨_, evO_rel ha e, rfl⟩, hm⟩
  | store t x y =>
    exact OpSnd.opt (o := evO T x) fun v e => OpSnd.opt (o := evO T y) fun v2 e2 => (OpSnd.unit (snd_store P t v v2)).mono fun r m ⟨a, ha, hm⟩ => ⟨_, ⟨_, _, evO_rel ha e, evO_rel ha e2, rfl⟩, hm⟩
  | nilCheck x =>
    exact OpSnd.opt (o := evO T x) fun v e => OpSnd.valOpt (o := exNil v) fun v2 e2 r m ⟨a, ha, hm⟩ => by
      obtain ⟨h1, h2⟩ := exNil_run (P := P) e2 (evO_rel ha e)
      exact ⟨_, h1, fun w => by subst hm; exact h2 x a.eval rfl w⟩
  | binOp op t x y yt =>
    refine OpSnd.opt (o := evO T x) fun v e => OpSnd.opt (o := evO T y) fun v2 e2 => ?_
    cases hc : catOf op v v2 with
    | none =>
      exact OpSnd.valOpt (o := exBinary P op t y v v2) fun v3 e3 r m ⟨a, ha, hm⟩ => by
        refine ⟨v3, (exBinary_run (o1 := x) e3 (evO_rel ha e) (evO_rel ha e2) default).2, fun w => ?_⟩
        have h3 := (exBinary_run (o1 := x) e3 (evO_rel ha e) (evO_rel ha e2) w).1
        subst hm
        show ((do eqGuard op t x y (a.eval x) (a.eval y); binOp op t (a.eval x) (a.eval y) : Sem Value) >>= fun z => pure (Next.value z)).run P w = _
        rw [Sem.run_bind, h3]; rfl
    | some pq =>
      obtain ⟨p, q⟩ := pq
      obtain ⟨rfl, rfl, rfl⟩ := catOf_some hc
      intro d s z s' h
      unfold exBinX at h
      obtain ⟨_, s1, h1, h2⟩ := bind_some h
      obtain ⟨cm, hk⟩ := calm_chk h1
      obtain ⟨rfl, rfl⟩ := pure_some h2
      refine ⟨cm.V, fun hV r ow w m hs hf ⟨a, ha, hm⟩ => ⟨r, ow, .value (.string (catB p q)), w, ?_, Post.calm hs cm, .string _⟩⟩
      have g1 := evO_rel ha e
      have g2 := evO_rel ha e2
      generalize hx : a.eval x = vx at g1
      generalize hy : a.eval y = vy at g2
      cases g1; cases g2
      subst hm
      have hle := Nat.le_of_ble_eq_true (hk hV)
      have hsz : ∀ b : ByteArray, b.size = b.data.toList.length := fun b => Array.length_toList.symm
      have hb : ¬ ((((p.size + q.size : Nat)) : Int) > IntKind.i64.max) := by
        rw [hsz, hsz]
        show ¬ (((p.data.toList.length + q.data.toList.length : Nat) : Int) > 9223372036854775807)
        omega
      show ((do eqGuard .add t x y (a.eval x) (a.eval y); binOp .add t (a.eval x) (a.eval y) : Sem Value) >>= fun z => pure (Next.value z)).run P w = _
      rw [hx, hy]
      have h3 : (do eqGuard .add t x y (.string p) (.string q); binOp .add t (.string p) (.string q) : Sem Value).run P w = .ok (.string (catB p q)) w := by
        rw [catB_eq]
        simp only [eqGuard_at_string, binOp, Op.stringOp, if_neg hb, Sem.run_bind]
        rfl
      rw [Sem.run_bind, h3]; rfl
  | unOp op t x =>
    exact OpSnd.opt (o := evO T x) fun v e => OpSnd.valOpt (o := exUn op v) fun v2 e2 r m ⟨a, ha, hm⟩ => by
      obtain ⟨h1, h2⟩ := exUn_run (P := P) e2 (evO_rel ha e)
      exact ⟨_, h1, fun w => by
        subst hm
        show (Op.unary op (a.eval x) >>= fun z => pure (Next.value z)).run P w = _
        rw [Sem.run_bind, h2 w]; rfl⟩
  | makeInterface t x =>
    exact OpSnd.opt (o := evO T x) fun v e => OpSnd.valOpt (o := exMkI P t v) fun v2 e2 r m ⟨a, ha, hm⟩ => by
      obtain ⟨h1, h2⟩ := exMkI_run e2 (evO_rel ha e)
      exact ⟨_, h1, fun w => by
        subst hm
        show (Instr.makeInterface t (a.eval x) >>= fun z => pure (Next.value z)).run P w = _
        rw [Sem.run_bind, h2 w]; rfl⟩
  | makeFunc fn f c =>
    refine OpSnd.opt (o := evL T f.toList) fun fv e => OpSnd.opt (o := evL T c.toList) fun cv e2 => ?_
    cases fn with
    | func g => exact OpSnd.pureVal.mono fun r m ⟨a, ha, hm⟩ => ⟨.func (.func g) (f.map a.eval) (c.map a.eval), by
        have h1 := evL_rel ha e
        have h2 := evL_rel ha e2
        have e3 : f.map a.eval = ⟨f.toList.map a.eval⟩ := by apply Array.ext'; simp
        have e4 : c.map a.eval = ⟨c.toList.map a.eval⟩ := by apply Array.ext'; simp
        rw [e3, e4]; exact RelL.mkFunc h1 h2, fun w => by subst hm; rfl⟩
    | _ => exact OpSnd.fail
  | makeMap t res =>
    cases res with
    | none => exact (OpSnd.val snd_newMap).mono fun r m ⟨a, ha, hm⟩ => ⟨_, rfl, by subst hm; rfl⟩
    | some _ => exact OpSnd.fail
  | range t x =>
    exact OpSnd.opt (o := evO T x) fun v e => (OpSnd.val (snd_range t v)).mono fun r m ⟨a, ha, hm⟩ => ⟨_, ⟨_, evO_rel ha e, rfl⟩, hm⟩
  | next x b =>
    cases b with
    | true => exact OpSnd.opt (o := evO T x) fun v e => (OpSnd.val (snd_next v _)).mono fun r m ⟨a, ha, hm⟩ => ⟨_, ⟨_, evO_rel ha e, rfl⟩, hm⟩
    | false => exact OpSnd.fail
  | convert src dst x =>
    exact OpSnd.opt (o := evO T x) fun v e => (OpSnd.val (snd_conv src dst v)).mono fun r m ⟨a, ha, hm⟩ => ⟨_, ⟨_, evO_rel ha e, rfl⟩, hm⟩
  | makeSlice t l c =>
    exact OpSnd.opt (o := evO T l) fun v e => OpSnd.opt (o := evO T c) fun v2 e2 => (OpSnd.val (snd_makeSlice t v v2)).mono fun r m ⟨a, ha, hm⟩ => ⟨_, ⟨_, _, evO_rel ha e, evO_rel ha e2, rfl⟩, hm⟩
  | slice t x lo hi mx =>
    exact OpSnd.opt (o := evO T x) fun v e => OpSnd.opt (o := evQ T lo) fun v2 e2 => OpSnd.opt (o := evQ T hi) fun v3 e3 => OpSnd.opt (o := evQ T mx) fun v4 e4 =>
      (OpSnd.val (snd_slice t v v2 v3 v4)).mono fun r m ⟨a, ha, hm⟩ => ⟨_, ⟨_, _, _, _, evO_rel ha e, evQ_rel ha e2, evQ_rel ha e3, evQ_rel ha e4, rfl⟩, hm⟩
  | fieldAddr t x f =>
    exact OpSnd.opt (o := evO T x) fun v e => (OpSnd.val (snd_fieldAddr t v f)).mono fun r m ⟨a, ha, hm⟩ => ⟨_, ⟨_, evO_rel ha e, rfl⟩, hm⟩
  | field t x f =>
    exact OpSnd.opt (o := evO T x) fun v e => (OpSnd.val (snd_field t v f)).mono fun r m ⟨a, ha, hm⟩ => ⟨_, ⟨_, evO_rel ha e, rfl⟩, hm⟩
  | indexAddr t x i =>
    exact OpSnd.opt (o := evO T x) fun v e => OpSnd.opt (o := evO T i) fun v2 e2 => (OpSnd.val (snd_indexAddr t v v2)).mono fun r m ⟨a, ha, hm⟩ => ⟨_, ⟨_, _, evO_rel ha e, evO_rel ha e2, rfl⟩, hm⟩
  | index t x i =>
    exact OpSnd.opt (o := evO T x) fun v e => OpSnd.opt (o := evO T i) fun v2 e2 => (OpSnd.val (snd_index t v v2)).mono fun r m ⟨a, ha, hm⟩ => ⟨_, ⟨_, _, evO_rel ha e, evO_rel ha e2, rfl⟩, hm⟩
  | lookup t x i ok =>
    exact OpSnd.opt (o := evO T x) fun v e => OpSnd.opt (o := evO T i) fun v2 e2 => (OpSnd.val (snd_lookup t v v2 ok)).mono fun r m ⟨a, ha, hm⟩ => ⟨_, ⟨_, _, evO_rel ha e, evO_rel ha e2, rfl⟩, hm⟩
  | mapUpdate t x k z =>
    exact OpSnd.opt (o := evO T x) fun v e => OpSnd.opt (o := evO T k) fun v2 e2 => OpSnd.opt (o := evO T z) fun v3 e3 => (OpSnd.unit (snd_mapUpdate t v v2 v3)).mono fun r m ⟨a, ha, hm⟩ => ⟨_, ⟨_, _, _, evO_rel ha e, evO_rel ha e2, evO_rel ha e3, rfl⟩, hm⟩
  | extract x i =>
    exact OpSnd.opt (o := evO T x) fun v e => OpSnd.valOpt (o := exTup i v) fun v2 e2 r m ⟨a, ha, hm⟩ => by
      obtain ⟨y, h1, h2⟩ := exTup_run (P := P) e2 (evO_rel ha e)
      exact ⟨y, h1, fun w => by
        subst hm
        show (Instr.extract (a.eval x) i >>= fun z => pure (Next.value z)).run P w = _
        rw [Sem.run_bind, h2 w]; rfl⟩
  | call c =>
    obtain ⟨cal, args, ats⟩ := c
    refine OpSnd.opt (o := evL T args.toList) fun as ea => ?_
    have hargs : ∀ a : Act, args.map a.eval = ⟨args.toList.map a.eval⟩ := fun a => by apply Array.ext'; simp
    cases cal with
    | invoke rc name =>
      refine OpSnd.opt (o := evO T rc) fun rv er => ?_
      split
      · rename_i t v
        refine OpSnd.opt (o := methF P t name) fun g eg => OpSnd.need fun hok => OpSnd.pureCall.mono fun r m ⟨a, ha, hm⟩ => ?_
        have hr := evO_rel ha er
        generalize hx : a.eval rc = vx at hr
        cases hr with
        | iface hv =>
          rename_i v'
          refine ⟨#[v'] ++ args.map a.eval, ?_, fun w => ?_⟩
          · simp only [Array.toList_append, hargs]
            exact .cons hv (evL_rel ha ea)
          · subst hm
            have h3 := fnOk_run (P := P) hok (#[v'] ++ args.map a.eval) w
            have h4 := methF_run eg (P.types.size + 99) v' w
            have h5 : (callMethod (.iface t v') name (args.map a.eval)).run P w = .ok (.enter g (#[v'] ++ args.map a.eval)) w := by
              unfold callMethod
              simp only [Sem.run_bind, run_program, Result.andThen_ok]
              rw [show P.types.size + Made.depth = P.types.size + 99 + 1 from rfl, h4]
              simp only [Result.andThen_ok]
              exact h3
            have h6 : (#[Value.iface t v'] ++ args.map a.eval)[0]? = some (.iface t v') := by
              rw [← Array.getElem?_toList, Array.toList_append]
              rfl
            have h7 : (#[Value.iface t v'] ++ args.map a.eval).extract 1 (#[Value.iface t v'] ++ args.map a.eval).size = args.map a.eval := by
              apply Array.ext'
              simp
              exact List.take_of_length_le (by simp)
            simp only [execOp, resolve, hx, Sem.run_bind, Sem.run_pure, Result.andThen_ok, invoke, h6, h7]
            exact h5
      · exact OpSnd.fail
    | value f =>
      refine OpSnd.opt (o := evO T f) fun fv ef => ?_
      split
      · rename_i g first cap
        refine OpSnd.need fun hok => OpSnd.pureCall.mono fun r m ⟨a, ha, hm⟩ => ?_
        obtain ⟨fs, cs, hfe, h1, h2⟩ := (evO_rel ha ef).func_inv
        refine ⟨fs ++ args.map a.eval ++ cs, ?_, fun w => ?_⟩
        · simp only [Array.toList_append, hargs]
          exact (h1.append (evL_rel ha ea)).append h2
        · subst hm
          have h3 := fnOk_run (P := P) hok (fs ++ args.map a.eval ++ cs) w
          simp only [execOp, resolve, hfe, Deferred.ofValue, Sem.run_bind, Sem.run_pure, Result.andThen_ok, invoke]
          exact h3
      · exact OpSnd.fail
    | builtin b =>
      refine (exBuiltin_snd b ats.toList as ty (args.map fun | .const _ => true | _ => false)).mono fun r m ⟨a, ha, hm⟩ => ⟨_, evL_rel ha ea, ?_⟩
      subst hm
      simp only [execOp, resolve, hargs]
      rfl

end
end Go.Sx
