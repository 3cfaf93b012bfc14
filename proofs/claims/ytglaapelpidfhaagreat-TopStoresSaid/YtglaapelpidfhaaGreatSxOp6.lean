/- Symbolic executor, part 10: make, cutting, maps with integer keys. No condition. -/
import Derived.Test.YtglaapelpidfhaaGreatSxOp5
namespace Go.Sx

section
variable {P : Program}

def exMakeSlice (P : Program) (t : TypeId) (len cap : Value) : X Value := match len, cap with
  | .int _ l, .int _ c => match P.underlying t with
    | some (.slice e) => match P.info? e with
      | some i => X.bind (zeroOk i) fun _ => X.bind (chk (decide (l = c ∧ 0 ≤ l ∧ (i.bytes : Int) * c ≤ 281474976710656 ∧ c ≤ 9223372036854775807))) fun _ => X.bind (zeroV P e) fun z =>
          X.bind (exRow e (zrep (cellsL z) c.toNat)) fun n => X.pure (.slice (some ⟨n, 0, none⟩) c.toNat 0)
      | none => X.fail
    | _ => X.fail
  | _, _ => X.fail
theorem snd_makeSlice (t : TypeId) (len cap : Value) : Snd P (exMakeSlice P t len cap) (fun r m => ∃ u y, Rel r len u ∧ Rel r cap y ∧ m = Instr.makeSlice t u y) := by
  intro d s v s' h
  unfold exMakeSlice at h
  split at h
  · rename_i k1 l k2 c
    cases hD : P.underlying t with
    | none => simp [hD, X.fail] at h
    | some D =>
    cases D <;> simp only [hD] at h <;> try (simp [X.fail] at h; done)
    rename_i e
    cases hi : P.info? e with
    | none => simp [hi, X.fail] at h
    | some i =>
    simp only [hi] at h
    obtain ⟨_, s1, h1, h2⟩ := bind_some h
    obtain ⟨⟨z, hz, hzl⟩, rfl⟩ := calm_zeroOk h1
    obtain ⟨_, s2, h3, h4⟩ := bind_some h2
    obtain ⟨cm, hk⟩ := calm_chk h3
    obtain ⟨z', s3, h5, h6⟩ := bind_some h4
    obtain ⟨⟨i', hi', hz'⟩, hp, rfl⟩ := zero_some h5
    obtain rfl : i = i' := by rw [hi] at hi'; exact Option.some.inj hi'
    obtain rfl : z = z' := by rw [hz] at hz'; exact Option.some.inj hz'
    rw [zrep_eq, hzl] at h6
    obtain ⟨n, s4, h7, h8⟩ := bind_some h6
    obtain ⟨rfl, rfl⟩ := new_some h7
    obtain ⟨rfl, rfl⟩ := pure_some h8
    refine ⟨fun hV => cm.V hV, fun hV r ow w m hs hf ⟨u, y, hu, hy, hm⟩ => ?_⟩
    obtain ⟨rfl, h0, hb, h63⟩ := of_decide_eq_true (hk hV)
    cases hu; cases hy; subst hm
    have hrun := run_make (P := P) w t e i z hD hi hz k1 k2 l l h0 (Int.le_refl _) hb h63
    have hs2 : Sat P r ow s2.h w := by rw [cm.h]; exact hs
    have hf2 : Fresh r s2.c (s2.c + 1) := by rw [cm.c]; exact hf.sub (Nat.le_refl _) (by show s.c + 1 ≤ s2.c + 1; rw [cm.c]; exact Nat.le_refl _)
    have hlen : (zeroRow (cellsL z) (l.toNat * i.size)).length = l.toNat * i.size := by simp [zeroRow_length]
    have hpost := post_new (P := P) (s := s2) (t := e) (k := l.toNat) hs2 hf2 (relL_take_self (zeroRow_rel (r := r) hp (l.toNat * i.size))) (Nat.le_refl _) (by rw [hlen, cellsOf_eq hi]) s2.R (s2.c :: s2.W) s2.V s2.k
    have hmc : madeCells z.cells (l.toNat * i.size) = ⟨zeroRow (cellsL z) (l.toNat * i.size)⟩ := by
      unfold madeCells; rw [zeroRow_eq, cells_eq]
    rw [hmc] at hrun
    exact ⟨_, _, _, _, hrun, (Post.calm (P := P) hs cm).trans hpost, .slice (by simp [Env.bind]) (.inl rfl) (Nat.le_refl _) (fun _ => ⟨rfl, rfl, by simp [Env.bind]⟩) (fun e => by cases e)⟩
  · simp [X.fail] at h

/-! Cutting. -/
def subStr (s : ByteArray) (l h : Nat) : ByteArray := ⟨⟨(s.data.toList.drop l).take (h - l)⟩⟩
theorem subStr_eq (s : ByteArray) (l h : Nat) (hl : l ≤ h) (hh : h ≤ s.size) : subStr s l h = s.extract l h := by
  rw [ByteArray.ext_iff]
  rw [ByteArray.data_extract]
  apply Array.ext'
  simp [subStr, Array.toList_extract, List.extract]

def bnd (dflt : Int) : Option Value → Option Int
  | none => some dflt
  | some (.int _ n) => some n
  | some _ => none
inductive RelO (r : Env) : Option Value → Option Value → Prop
  | none : RelO r none none
  | some {x y : Value} (h : Rel r x y) : RelO r (some x) (some y)

theorem bnd_inv {r : Env} {d n : Int} {o p : Option Value} (h : bnd d o = some n) (hr : RelO r o p) : (o = none ∧ p = none ∧ n = d) ∨ ∃ k, o = some (.int k n) ∧ p = some (.int k n) := by
  cases hr with
  | none => simp [bnd] at h; exact .inl ⟨rfl, rfl, h.symm⟩
  | some hx =>
    rename_i x y
    cases x <;> simp [bnd] at h
    subst h; cases hx
    exact .inr ⟨_, rfl, rfl⟩

def exSlice (P : Program) (t : TypeId) (x : Value) (lo hi mx : Option Value) : X Value := match x with
  | .string s => match P.underlying t with
    | some .string => X.bind (opt (bnd 0 lo)) fun l => X.bind (opt (bnd (s.data.toList.length : Int) hi)) fun h => X.bind (need mx.isNone) fun _ =>
        X.bind (chk (decide (0 ≤ l ∧ l ≤ h ∧ h ≤ (s.data.toList.length : Int)))) fun _ => X.pure (.string (subStr s l.toNat h.toNat))
    | _ => X.fail
  | .slice a len mk => match P.underlying t with
    | some (.slice e) => X.bind (need (mx.isNone || hi.isSome)) fun _ => X.bind (szOf P e) fun sz => X.bind (opt (bnd 0 lo)) fun l => X.bind (opt (bnd (len : Int) hi)) fun h => X.bind (opt (bnd h mx)) fun m =>
        X.bind (chk (decide (0 ≤ l ∧ l ≤ h ∧ h ≤ (len : Int) ∧ m = h))) fun _ => match a with
        | none => X.pure (.slice none 0 0)
        | some ⟨n, off, none⟩ => X.bind (ask (decide (l = 0))) fun z => match z, mx with
          | true, none => X.pure (.slice (some ⟨n, off, none⟩) h.toNat (match mk with | 0 => 0 | _ => 1))
          | true, some _ => X.pure (.slice (some ⟨n, off, none⟩) h.toNat 2)
          | false, none => X.pure (.slice (some ⟨n, off + l.toNat * sz, none⟩) (h - l).toNat 1)
          | false, some _ => X.fail
        | _ => X.fail
    | _ => X.fail
  | _ => X.fail

theorem run_bounds {w : World} {isS : Bool} {len cap : Nat} {l h : Int} {lo hi : Option Value} (h1 : (lo = none ∧ l = 0) ∨ ∃ k, lo = some (.int k l)) (h2 : (hi = none ∧ h = (len : Int)) ∨ ∃ k, hi = some (.int k h))
    (h0 : 0 ≤ l) (hl : l ≤ h) (hh : h ≤ len) (hc : len ≤ cap) : (Instr.sliceBounds isS len cap lo hi none).run P w = .ok (l.toNat, h.toNat, cap) w := by
  have eh : (h.toNat : Int) = h := Int.toNat_of_nonneg (by omega)
  have h3 : 0 ≤ h := by omega
  have h4 : h ≤ (cap : Int) := by omega
  rcases h1 with ⟨rfl, rfl⟩ | ⟨k1, rfl⟩ <;> rcases h2 with ⟨rfl, rfl⟩ | ⟨k2, rfl⟩
  · simp [Instr.sliceBounds]
  · simp [Instr.sliceBounds, run_sliceBound, h3, h4]
  · simp [Instr.sliceBounds, run_sliceBound, h0, hl]
  · simp [Instr.sliceBounds, run_sliceBound, h3, h4, h0, eh, hl]
theorem run_bounds3 {w : World} {isS : Bool} {len cap : Nat} {l h : Int} {lo hi : Option Value} {km : IntKind} (h1 : (lo = none ∧ l = 0) ∨ ∃ k, lo = some (.int k l)) (h2 : ∃ k, hi = some (.int k h))
    (h0 : 0 ≤ l) (hl : l ≤ h) (hh : h ≤ len) (hc : len ≤ cap) : (Instr.sliceBounds isS len cap lo hi (some (.int km h))).run P w = .ok (l.toNat, h.toNat, h.toNat) w := by
  have eh : (h.toNat : Int) = h := Int.toNat_of_nonneg (by omega)
  have h3 : 0 ≤ h := by omega
  have h4 : h ≤ (cap : Int) := by omega
  have h5 : h ≤ (h.toNat : Int) := by omega
  rcases h1 with ⟨rfl, rfl⟩ | ⟨k1, rfl⟩ <;> obtain ⟨k2, rfl⟩ := h2
  · have q1 := fun code => run_sliceBound (P := P) w km h cap code h3 h4
    have q2 := fun code => run_sliceBound (P := P) w k2 h h.toNat code h3 h5
    simp only [Instr.sliceBounds, Sem.run_bind, Sem.run_pure, q1, Result.andThen_ok, q2]; rfl
  · simp [Instr.sliceBounds, run_sliceBound, h3, h4, h0, eh, hl]

theorem snd_slice (t : TypeId) (x : Value) (lo hi mx : Option Value) : Snd P (exSlice P t x lo hi mx) (fun r m => ∃ u lo' hi' mx', Rel r x u ∧ RelO r lo lo' ∧ RelO r hi hi' ∧ RelO r mx mx' ∧ m = Instr.sliceAt t u lo' hi' mx') := by
  intro d s v s' h
  unfold exSlice at h
  split at h
  · rename_i sx
    cases hD : P.underlying t with
    | none => simp [hD, X.fail] at h
    | some D =>
    cases D <;> simp only [hD] at h <;> try (simp [X.fail] at h; done)
    obtain ⟨l, s1, h1, h2⟩ := bind_some h
    obtain ⟨hl, rfl⟩ := opt_some h1
    obtain ⟨hh, s2, h3, h4⟩ := bind_some h2
    obtain ⟨hhh, rfl⟩ := opt_some h3
    obtain ⟨_, s3, h5, h6⟩ := bind_some h4
    obtain ⟨hmx, rfl⟩ := need_some h5
    obtain ⟨_, s4, h7, h8⟩ := bind_some h6
    obtain ⟨cm, hk⟩ := calm_chk h7
    obtain ⟨rfl, rfl⟩ := pure_some h8
    refine ⟨fun hV => cm.V hV, fun hV r ow w m hs hf ⟨u, lo', hi', mx', hu, hlo, hhi, hmx', hm⟩ => ?_⟩
    obtain ⟨g1, g2, g3⟩ := of_decide_eq_true (hk hV)
    have hm0 : mx = none := by simpa using hmx
    subst hm0
    cases hmx'
    cases hu
    have hb := run_bounds (P := P) (w := w) (isS := false) (len := sx.size) (cap := sx.size) (l := l) (h := hh) (lo := lo') (hi := hi')
      (by rcases bnd_inv hl hlo with ⟨_, h2, h3⟩ | ⟨k, _, h2⟩; exact .inl ⟨h2, h3⟩; exact .inr ⟨k, h2⟩) (by rcases bnd_inv hhh hhi with ⟨_, h2, h3⟩ | ⟨k, _, h2⟩; exact .inl ⟨h2, h3⟩; exact .inr ⟨k, h2⟩) g1 g2 g3 (Nat.le_refl _)
    refine ⟨r, ow, _, w, ?_, Post.calm hs cm, .string _⟩
    subst hm
    rw [subStr_eq sx l.toNat hh.toNat (by omega) (by show _ ≤ sx.data.toList.length; omega)]
    simp [Instr.sliceAt, run_underlying hD, Instr.slice, hb]
  · rename_i a len mk
    cases hD : P.underlying t with
    | none => simp [hD, X.fail] at h
    | some D =>
    cases D <;> simp only [hD] at h <;> try (simp [X.fail] at h; done)
    rename_i e
    obtain ⟨_, sm, hm1, hm2⟩ := bind_some h
    obtain ⟨hms, rfl⟩ := need_some hm1
    obtain ⟨sz, s0, h00, h01⟩ := bind_some hm2
    obtain ⟨⟨i, hi0, rfl⟩, rfl⟩ := sz_some h00
    obtain ⟨l, s1, h1, h2⟩ := bind_some h01
    obtain ⟨hl, rfl⟩ := opt_some h1
    obtain ⟨hh, s2, h3, h4⟩ := bind_some h2
    obtain ⟨hhh, rfl⟩ := opt_some h3
    obtain ⟨mm, s3, h5, h6⟩ := bind_some h4
    obtain ⟨hmm, rfl⟩ := opt_some h5
    obtain ⟨_, s4, h7, h8⟩ := bind_some h6
    obtain ⟨cm, hk⟩ := calm_chk h7
    -- what the bounds come to
    have key : VCs s4.V → ∀ (r : Env) (w : World) (u : Value) (lo' hi' mx' : Option Value), Rel r (.slice a len mk) u → RelO r lo lo' → RelO r hi hi' → RelO r mx mx' → ∀ (a' : Option Addr) (c : Nat), u = .slice a' len c → len ≤ c →
        (0 ≤ l ∧ l ≤ hh ∧ hh ≤ (len : Int)) ∧ (Instr.sliceAt t u lo' hi' mx').run P w = .ok (.slice (if (if mx = none then c else hh.toNat) = l.toNat then a' else a'.map (·.add (l.toNat * i.size))) (hh.toNat - l.toNat) ((if mx = none then c else hh.toNat) - l.toNat)) w := by
      intro hV r w u lo' hi' mx' hu hlo hhi hmx a' c hua hc
      obtain ⟨g1, g2, g3, g4⟩ := of_decide_eq_true (hk hV)
      refine ⟨⟨g1, g2, g3⟩, ?_⟩
      subst hua
      have hb1 : (lo' = none ∧ l = 0) ∨ ∃ k, lo' = some (.int k l) := by rcases bnd_inv hl hlo with ⟨_, h2, h3⟩ | ⟨k, _, h2⟩; exact .inl ⟨h2, h3⟩; exact .inr ⟨k, h2⟩
      rcases bnd_inv hmm hmx with ⟨e1, e2, e3⟩ | ⟨k, e1, e2⟩
      · subst e1; subst e2
        have hb := run_bounds (P := P) (w := w) (isS := true) (len := len) (cap := c) (l := l) (h := hh) (lo := lo') (hi := hi') hb1 (by rcases bnd_inv hhh hhi with ⟨_, h2, h3⟩ | ⟨k, _, h2⟩; exact .inl ⟨h2, h3⟩; exact .inr ⟨k, h2⟩) g1 g2 g3 hc
        simp [Instr.sliceAt, run_underlying hD, Instr.slice, hb, run_size hi0]
      · subst e1; subst e2
        subst g4
        rcases bnd_inv hhh hhi with ⟨q1, q2, q3⟩ | ⟨k2, q1, q2⟩
        · subst q1; simp at hms
        · have hb := run_bounds3 (P := P) (w := w) (isS := true) (len := len) (cap := c) (l := l) (h := mm) (lo := lo') (hi := hi') (km := k) hb1 ⟨k2, q2⟩ g1 g2 g3 hc
          simp [Instr.sliceAt, run_underlying hD, Instr.slice, hb, run_size hi0]
    split at h8
    · obtain ⟨rfl, rfl⟩ := pure_some h8
      refine ⟨fun hV => cm.V hV, fun hV r ow w m hs hf ⟨u, lo', hi', mx', hu, hlo, hhi, hmx', hm⟩ => ?_⟩
      have hu' := hu
      cases hu with
      | sliceNil =>
        obtain ⟨⟨g1, g2, g3⟩, hrun⟩ := key hV r w _ lo' hi' mx' hu' hlo hhi hmx' none 0 rfl (Nat.le_refl _)
        subst hm
        refine ⟨r, ow, _, w, hrun, Post.calm hs cm, ?_⟩
        have q1 : hh.toNat = 0 := by omega
        have q2 : l.toNat = 0 := by omega
        rw [q1, q2]
        simp
        exact .sliceNil
    · rename_i n off
      obtain ⟨zb, s5, h9, h10⟩ := bind_some h8
      obtain ⟨cm2, hz⟩ := calm_ask h9
      have cmm := cm.trans cm2
      split at h10
      · obtain ⟨rfl, rfl⟩ := pure_some h10
        refine ⟨fun hV => cmm.V hV, fun hV r ow w m hs hf ⟨u, lo', hi', mx', hu, hlo, hhi, hmx', hm⟩ => ?_⟩
        have hl0 : l = 0 := by have := hz hV; simpa using this
        have hu' := hu
        cases hu with
        | @slice _ b _ off' _ _ c hbk ho hlc h0 h2 =>
        obtain ⟨⟨g1, g2, g3⟩, hrun⟩ := key (cm2.V hV) r w _ lo' hi' none hu' hlo hhi (by cases hmx'; exact .none) _ c rfl hlc
        subst hl0
        subst hm
        cases hmx'
        refine ⟨r, ow, _, w, hrun, Post.calm hs cmm, ?_⟩
        simp only [if_true, Int.toNat_zero, Nat.zero_mul, Addr.add_zero', Option.map_some, ite_self, Nat.sub_zero]
        refine .slice hbk (ho.imp id fun e => by omega) (by omega) (fun e => ?_) (fun e => ?_)
        · split at e
          · exact h0 rfl
          · cases e
        · split at e <;> cases e
      · obtain ⟨rfl, rfl⟩ := pure_some h10
        refine ⟨fun hV => cmm.V hV, fun hV r ow w m hs hf ⟨u, lo', hi', mx', hu, hlo, hhi, hmx', hm⟩ => ?_⟩
        have hl0 : l = 0 := by have := hz hV; simpa using this
        have hu' := hu
        cases hu with
        | @slice _ b _ off' _ _ c hbk ho hlc h0 h2 =>
        obtain ⟨⟨g1, g2, g3⟩, hrun⟩ := key (cm2.V hV) r w _ lo' hi' mx' hu' hlo hhi hmx' _ c rfl hlc
        subst hl0
        subst hm
        refine ⟨r, ow, _, w, hrun, Post.calm hs cmm, ?_⟩
        simp only [Int.toNat_zero, Nat.zero_mul, Addr.add_zero', Option.map_some, ite_self, Nat.sub_zero]
        exact .slice hbk (ho.imp id fun e => by omega) (by simp) (fun e => by cases e) (fun e => by simp)
      · obtain ⟨rfl, rfl⟩ := pure_some h10
        refine ⟨fun hV => cmm.V hV, fun hV r ow w m hs hf ⟨u, lo', hi', mx', hu, hlo, hhi, hmx', hm⟩ => ?_⟩
        have hl0 : l ≠ 0 := by have := hz hV; simpa using this
        have hu' := hu
        cases hu with
        | @slice _ b _ off' _ _ c hbk ho hlc h0 h2 =>
        obtain ⟨⟨g1, g2, g3⟩, hrun⟩ := key (cm2.V hV) r w _ lo' hi' none hu' hlo hhi (by cases hmx'; exact .none) _ c rfl hlc
        subst hm
        cases hmx'
        have hoff : off' = off := by
          rcases ho with e | e
          · exact e
          · omega
        subst hoff
        simp only [if_true] at hrun
        by_cases hcl : c = l.toNat
        · rw [if_pos hcl] at hrun
          refine ⟨r, ow, _, w, hrun, Post.calm hs cmm, ?_⟩
          have e1 : (hh - l).toNat = 0 := by omega
          have e2 : hh.toNat - l.toNat = 0 := by omega
          rw [e1, e2]
          exact .slice hbk (.inr rfl) (Nat.zero_le _) (fun e => by cases e) (fun e => by cases e)
        · rw [if_neg hcl] at hrun
          refine ⟨r, ow, _, w, hrun, Post.calm hs cmm, ?_⟩
          have e1 : (hh - l).toNat = hh.toNat - l.toNat := by omega
          rw [e1]
          simp only [Option.map_some, add_off]
          exact .slice hbk (.inl rfl) (by omega) (fun e => by cases e) (fun e => by cases e)
      · simp [X.fail] at h10
    · simp [X.fail] at h8
  · simp [X.fail] at h

end
end Go.Sx
