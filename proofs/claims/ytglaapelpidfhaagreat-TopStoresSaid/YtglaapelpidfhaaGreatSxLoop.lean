/- Symbolic executor, part 20: runs in which a loop's end is told by advice, and shown beside; a part of the heap alone; what a round leaves behind is forgotten. No condition. -/
import Derived.Test.YtglaapelpidfhaaGreatSxCon
namespace Go.Sx
variable {P : Program}

def keepT (live : List Nat) : Nat → List Value → List Value
  | _, [] => []
  | i, v :: l => (match hasN i live with
    | true => v
    | false => .chan none) :: keepT live (i + 1) l
theorem keepT_rel {r : Env} (live : List Nat) : ∀ (T us : List Value) (i : Nat), RelL r T us → RelL r (keepT live i T) us
  | [], us, i, h => by cases h; exact .nil
  | v :: l, us, i, h => by
    cases h with
    | cons hx ht =>
      refine .cons ?_ (keepT_rel live l _ (i + 1) ht)
      cases hasN i live with
      | true => exact hx
      | false => exact .any

theorem hasN_mem {n : Nat} : ∀ {l : List Nat}, hasN n l = true ↔ n ∈ l
  | [] => by simp [hasN]
  | m :: l => by
    simp only [hasN, nbeq, List.mem_cons]
    by_cases e : n = m
    · simp [e]
    · simp [e, Ne.symm e, hasN_mem (l := l)]

def Heap.only (K : List Nat) : Heap → Heap
  | [] => []
  | (m, c) :: h => match hasN m K with
    | true => (m, c) :: Heap.only K h
    | false => Heap.only K h
def Heap.without (K : List Nat) : Heap → Heap
  | [] => []
  | (m, c) :: h => match hasN m K with
    | true => Heap.without K h
    | false => (m, c) :: Heap.without K h
theorem Heap.get_only (K : List Nat) (n : Nat) : ∀ h : Heap, (h.only K).get n = if n ∈ K then h.get n else none
  | [] => by simp [Heap.only, Heap.get]
  | (m, c) :: h => by
    unfold Heap.only
    cases e : hasN m K with
    | true =>
      have hm := hasN_mem.1 e
      simp only [Heap.get, nbeq]
      by_cases e2 : m = n
      · subst e2; simp [hm]
      · simp [e2, Heap.get_only K n h]
    | false =>
      have hm : m ∉ K := fun x => by rw [hasN_mem.2 x] at e; cases e
      simp only [Heap.get, nbeq]
      rw [Heap.get_only K n h]
      by_cases e2 : m = n
      · subst e2; simp [hm]
      · simp [e2]
theorem Heap.get_without (K : List Nat) (n : Nat) : ∀ h : Heap, (h.without K).get n = if n ∈ K then none else h.get n
  | [] => by simp [Heap.without, Heap.get]
  | (m, c) :: h => by
    unfold Heap.without
    cases e : hasN m K with
    | true =>
      have hm := hasN_mem.1 e
      simp only [Heap.get, nbeq]
      rw [Heap.get_without K n h]
      by_cases e2 : m = n
      · subst e2; simp [hm]
      · simp [e2]
    | false =>
      have hm : m ∉ K := fun x => by rw [hasN_mem.2 x] at e; cases e
      simp only [Heap.get, nbeq]
      by_cases e2 : m = n
      · subst e2; simp [hm]
      · simp [e2, Heap.get_without K n h]
theorem Heap.get_append (n : Nat) (k : Heap) : ∀ h : Heap, Heap.get (h ++ k) n = match h.get n with
    | some c => some c
    | none => k.get n
  | [] => by simp [Heap.get]
  | (m, c) :: h => by
    show Heap.get ((m, c) :: (h ++ k)) n = _
    simp only [Heap.get]
    cases e : Nat.beq m n with
    | true => simp
    | false => simp [Heap.get_append n k h]
/-- The names of a heap are among K, or from c to c'. -/
def namesIn (K : List Nat) (c c' : Nat) : Heap → Bool
  | [] => true
  | (m, _) :: h => (hasN m K || (Nat.ble c m && Nat.blt m c')) && namesIn K c c' h
def namesBelow (c : Nat) : Heap → Bool
  | [] => true
  | (m, _) :: h => Nat.blt m c && namesBelow c h
theorem namesIn_get {K : List Nat} {c c' n : Nat} {x : Chunk} : ∀ {h : Heap}, namesIn K c c' h = true → h.get n = some x → n ∈ K ∨ (c ≤ n ∧ n < c')
  | [], _, e => by simp [Heap.get] at e
  | (m, y) :: h, hn, e => by
    simp only [namesIn, Bool.and_eq_true, Bool.or_eq_true] at hn
    simp only [Heap.get, nbeq] at e
    by_cases e2 : m = n
    · subst e2
      rcases hn.1 with q | ⟨q1, q2⟩
      · exact .inl (hasN_mem.1 q)
      · exact .inr ⟨Nat.le_of_ble_eq_true q1, Nat.le_of_ble_eq_true q2⟩
    · simp [e2] at e; exact namesIn_get hn.2 e
theorem namesBelow_get {c n : Nat} {x : Chunk} : ∀ {h : Heap}, namesBelow c h = true → h.get n = some x → n < c
  | [], _, e => by simp [Heap.get] at e
  | (m, y) :: h, hn, e => by
    simp only [namesBelow, Bool.and_eq_true] at hn
    simp only [Heap.get, nbeq] at e
    by_cases e2 : m = n
    · subst e2; exact Nat.le_of_ble_eq_true hn.1
    · simp [e2] at e; exact namesBelow_get hn.2 e

def stOf (c : Nat) (h : Heap) : St := ⟨c, 0, h, [], [], []⟩
/-- What a task does, from a heap to a heap. -/
def Does (P : Program) (c0 : Nat) (h0 : Heap) (c1 : Nat) (h1 : Heap) (t : Task) (res : ARes) : Prop :=
  c0 ≤ c1 ∧ ∀ r ow w, Sat P r ow h0 w → Fresh r c0 c1 → TaskOk P r ow w (stOf c0 h0) (stOf c1 h1) t res
theorem Post.of_st {r r' : Env} {ow ow' : Nat → Option Nat} {w w' : World} {s s' t t' : St} (hc : t.c = s.c) (hc' : t'.c = s'.c) (hh : t'.h = s'.h) (h : Post P r ow w s r' ow' w' s') : Post P r ow w t r' ow' w' t' :=
  ⟨h.le, by rw [hh]; exact h.sat, h.frame, by rw [hc, hc']; exact h.new, by rw [hc, hc']; exact h.mono, by rw [hc, hc']; exact h.own⟩

def part (K : List Nat) (ow : Nat → Option Nat) : Nat → Option Nat := fun b => match ow b with
  | some n => if n ∈ K then some n else none
  | none => none
def join (K : List Nat) (ow ow' : Nat → Option Nat) : Nat → Option Nat := fun b => match ow b with
  | some n => if n ∈ K then ow' b else some n
  | none => ow' b
theorem part_some {K : List Nat} {ow : Nat → Option Nat} {b n : Nat} : part K ow b = some n ↔ ow b = some n ∧ n ∈ K := by
  unfold part
  cases e : ow b with
  | none => simp
  | some m =>
    simp only [Option.some.injEq]
    by_cases hm : m ∈ K
    · simp [hm]; intro e2; subst e2; exact hm
    · simp [hm]; intro e2; subst e2; exact hm
theorem Sat.part {r : Env} {ow : Nat → Option Nat} {h : Heap} {w : World} (hs : Sat P r ow h w) (K : List Nat) : Sat P r (part K ow) (h.only K) w := by
  refine ⟨fun n c hn => ?_, fun b n e => hs.bound b n (part_some.1 e).1, fun b n e => hs.known b n (part_some.1 e).1⟩
  rw [Heap.get_only] at hn
  by_cases hK : n ∈ K
  · rw [if_pos hK] at hn
    exact Chunk.sat_keep (fun _ _ => rfl) (fun b => by rw [part_some]; exact ⟨fun e => e.1, fun e => ⟨e, hK⟩⟩) (hs.chunk n c hn)
  · rw [if_neg hK] at hn; cases hn
/-- What is done on a part of the heap is done on the whole. -/
theorem Post.join {r r' : Env} {ow ow' : Nat → Option Nat} {w w' : World} {h h1 : Heap} {c0 c1 : Nat} {K : List Nat} (hs : Sat P r ow h w) (hf : Fresh r c0 c1)
    (hn : namesIn K c0 c1 h1 = true) (hb : namesBelow c0 (h.without K) = true)
    (hp : Post P r (Sx.part K ow) w (stOf c0 (h.only K)) r' ow' w' (stOf c1 h1)) : Post P r ow w (stOf c0 h) r' (Sx.join K ow ow') w' (stOf c1 (h1 ++ h.without K)) := by
  have hgone : ∀ b m, ow b = some m → m ∉ K → ow' b = none ∧ w'.heap[b]? = w.heap[b]? := fun b m e hm =>
    hp.frame.keep b (hs.bound b m e) (by unfold Sx.part; rw [e]; simp [hm])
  have hnone : ∀ b, ow b = none → Sx.part K ow b = none := fun b e => by unfold Sx.part; rw [e]
  refine ⟨hp.le, ⟨fun n c hn' => ?_, fun b n e => ?_, fun b n e => ?_⟩, ⟨hp.frame.os, hp.frame.tape, hp.frame.output, hp.frame.size, fun b hb' ho => ?_⟩, hp.new, hp.mono, fun b n e => ?_⟩
  · change (h1 ++ h.without K).get n = some c at hn'
    rw [Heap.get_append] at hn'
    cases e1 : h1.get n with
    | some x =>
      simp only [e1, Option.some.injEq] at hn'
      subst hn'
      have hwh := namesIn_get hn e1
      refine Chunk.sat_keep (fun _ _ => rfl) (fun b => ?_) (hp.sat.chunk n x e1)
      unfold Sx.join
      cases e2 : ow b with
      | none => rfl
      | some m =>
        simp only
        by_cases hm : m ∈ K
        · simp [hm]
        · simp only [hm, if_false]
          have h3 := (hgone b m e2 hm).1
          rw [h3]
          simp only [Option.some.injEq, reduceCtorEq, iff_false]
          intro e3
          subst e3
          rcases hwh with q | ⟨q1, q2⟩
          · exact hm q
          · have := hf m q1 q2
            rcases hs.known b m e2 with k | k
            · exact k this.1
            · exact k this.2
    | none =>
      simp only [e1] at hn'
      have hlt := namesBelow_get hb hn'
      rw [Heap.get_without] at hn'
      by_cases hK : n ∈ K
      · rw [if_pos hK] at hn'; cases hn'
      · rw [if_neg hK] at hn'
        refine Chunk.sat_keep (w := w) (ow := ow) (fun b hb' => (hgone b n hb' hK).2) (fun b => ?_) (Chunk.sat_mono hp.le (hs.chunk n c hn'))
        have hno : ∀ b, ow' b ≠ some n := fun b e => by
          rcases hp.own b n e with ⟨b', q⟩ | ⟨q, _⟩
          · exact hK (part_some.1 q).2
          · exact absurd hlt (Nat.not_lt.2 q)
        unfold Sx.join
        cases e2 : ow b with
        | none => simp only [reduceCtorEq, iff_false]; exact hno b
        | some m =>
          simp only
          by_cases hm : m ∈ K
          · simp only [hm, if_true, Option.some.injEq]
            refine ⟨fun e => absurd e (hno b), fun e => by subst e; exact absurd hm hK⟩
          · simp [hm]
  · unfold Sx.join at e
    cases e2 : ow b with
    | none => rw [e2] at e; exact hp.sat.bound b n e
    | some m =>
      rw [e2] at e
      by_cases hm : m ∈ K
      · simp only [hm, if_true] at e; exact hp.sat.bound b n e
      · exact Nat.lt_of_lt_of_le (hs.bound b m e2) hp.frame.size
  · unfold Sx.join at e
    cases e2 : ow b with
    | none => rw [e2] at e; exact hp.sat.known b n e
    | some m =>
      rw [e2] at e
      by_cases hm : m ∈ K
      · simp only [hm, if_true] at e; exact hp.sat.known b n e
      · simp only [hm, if_false, Option.some.injEq] at e
        subst e
        exact hp.le.known (hs.known b m e2)
  · have := hp.frame.keep b hb' (hnone b ho)
    refine ⟨?_, this.2⟩
    unfold Sx.join
    rw [ho]; exact this.1
  · have key : ow' b = some n → (∃ b', ow b' = some n) ∨ (c0 ≤ n ∧ n < c1) := fun e => by
      rcases hp.own b n e with ⟨b', q⟩ | q
      · exact .inl ⟨b', (part_some.1 q).1⟩
      · exact .inr q
    unfold Sx.join at e
    cases e2 : ow b with
    | none => rw [e2] at e; exact key e
    | some m =>
      rw [e2] at e
      by_cases hm : m ∈ K
      · simp only [hm, if_true] at e; exact key e
      · simp only [hm, if_false, Option.some.injEq] at e
        subst e
        exact .inl ⟨b, e2⟩

/-! Forgetting. -/
def inside (c c' n : Nat) : Bool := Nat.ble c n && Nat.blt n c'
theorem inside_iff {c c' n : Nat} : inside c c' n = true ↔ c ≤ n ∧ n < c' := by
  unfold inside
  rw [Bool.and_eq_true]
  exact ⟨fun h => ⟨Nat.le_of_ble_eq_true h.1, Nat.le_of_ble_eq_true h.2⟩, fun h => ⟨Nat.ble_eq_true_of_le h.1, Nat.ble_eq_true_of_le h.2⟩⟩
def Env.cut (r : Env) (c c' : Nat) : Env := ⟨fun n => if inside c c' n then none else r.blk n, r.cap, fun n => if inside c c' n then none else r.val n⟩
def cutO (c c' : Nat) (ow : Nat → Option Nat) : Nat → Option Nat := fun b => match ow b with
  | some n => if inside c c' n then none else some n
  | none => none
theorem cutO_some {c c' : Nat} {ow : Nat → Option Nat} {b n : Nat} : cutO c c' ow b = some n ↔ ow b = some n ∧ inside c c' n = false := by
  unfold cutO
  cases e : ow b with
  | none => simp
  | some m =>
    simp only [Option.some.injEq]
    cases hm : inside c c' m with
    | true => simp; intro e2; subst e2; exact hm
    | false => simp; intro e2; subst e2; exact hm
/-- The value names nothing from c to c'. -/
def Away (c c' : Nat) (v : Value) : Prop := ∀ (r : Env) (u : Value), Rel r v u → Rel (r.cut c c') v u
def allL (p : Value → Bool) : List Value → Bool
  | [] => true
  | v :: l => p v && allL p l
def away : Nat → Nat → Nat → Value → Bool
  | 0, _, _, _ => false
  | f + 1, c, c', v => match v with
    | .bool _ | .int _ _ | .string _ | .pointer none | .slice none _ _ | .map none | .nilFunc | .nilIface | .chan none => true
    | .pointer (some ⟨n, _, none⟩) => !inside c c' n
    | .pointer (some ⟨_, _, some _⟩) => true
    | .slice (some ⟨n, _, none⟩) _ _ => !inside c c' n
    | .slice (some ⟨_, _, some _⟩) _ _ => true
    | .map (some n) => !inside c c' n
    | .chan (some n) => !inside c c' n
    | .iface _ v => away f c c' v
    | .agg ⟨l⟩ => allL (away f c c') l
    | .tuple ⟨l⟩ => allL (away f c c') l
    | .func _ ⟨a⟩ ⟨b⟩ => allL (away f c c') a && allL (away f c c') b
    | _ => false
theorem allL_rel {c c' : Nat} {p : Value → Bool} (hp : ∀ v, p v = true → Away c c' v) {r : Env} : ∀ {l us : List Value}, allL p l = true → RelL r l us → RelL (r.cut c c') l us
  | [], _, _, h => by cases h; exact .nil
  | v :: l, _, hl, h => by
    cases h with
    | cons hx ht =>
      simp only [allL, Bool.and_eq_true] at hl
      exact .cons (hp v hl.1 r _ hx) (allL_rel hp hl.2 ht)
theorem away_ok {c c' : Nat} : ∀ (f : Nat) (v : Value), away f c c' v = true → Away c c' v
  | 0, v, h => by simp [away] at h
  | f + 1, v, h => by
    intro r u hr
    unfold away at h
    have hblk : ∀ n b, inside c c' n = false → r.blk n = some b → (r.cut c c').blk n = some b := fun n b hi hb => by simp [Env.cut, hi, hb]
    split at h
    · cases hr; exact .bool _
    · cases hr; exact .int _ _
    · cases hr; exact .string _
    · cases hr; exact .ptrNil
    · cases hr; exact .sliceNil
    · cases hr; exact .mapNil
    · cases hr; exact .nilFunc
    · cases hr; exact .nilIface
    · cases hr; exact .any
    · cases hr with | ptr hb => exact .ptr (hblk _ _ (by simpa using h) hb)
    · cases hr with | litPtr => exact .litPtr
    · cases hr with | slice hb ho hl h0 h2 => exact .slice (hblk _ _ (by simpa using h) hb) ho hl h0 h2
    · cases hr with | litSlice hl hs => exact .litSlice hl hs
    · cases hr with | map hb => exact .map (hblk _ _ (by simpa using h) hb)
    · cases hr with | opq hb => exact .opq (by simp only [Env.cut]; rw [if_neg (by simpa using h)]; exact hb)
    · cases hr with | iface hb => exact .iface (away_ok f _ h r _ hb)
    · obtain ⟨ys, rfl, hl⟩ := hr.agg_inv
      exact RelL.mkAgg (ys := ys.toList) (allL_rel (away_ok f) h hl)
    · obtain ⟨ys, rfl, hl⟩ := hr.tuple_inv
      exact RelL.mkTuple (ys := ys.toList) (allL_rel (away_ok f) h hl)
    · obtain ⟨ys, bs, rfl, hl, hl'⟩ := hr.func_inv
      rw [Bool.and_eq_true] at h
      exact RelL.mkFunc (ys := ys.toList) (bs := bs.toList) (allL_rel (away_ok f) h.1 hl) (allL_rel (away_ok f) h.2 hl')
    · cases h
/-- The piece names nothing from c to c'. -/
def Chunk.Away (P : Program) (c c' : Nat) (n : Nat) (x : Chunk) : Prop := ∀ (r : Env) (ow : Nat → Option Nat) (w : World), x.sat P r ow w n → x.sat P (r.cut c c') (cutO c c' ow) w n
def Chunk.away (c c' : Nat) : Chunk → Bool
  | .cells l _ => allL (Sx.away 9 c c') l
  | .map es => allL (Sx.away 9 c c') (es.map (·.1)) && allL (Sx.away 9 c c') (es.map (·.2))
  | .args _ _ => true
  | .bag _ _ => true
  | .sem _ => false
theorem Chunk.away_ok {c c' n : Nat} {x : Chunk} (hn : inside c c' n = false) (h : x.away c c' = true) : x.Away P c c' n := by
  intro r ow w hs
  have hblk : ∀ b, r.blk n = some b → (r.cut c c').blk n = some b := fun b hb => by simp [Env.cut, hn, hb]
  cases x with
  | cells l t =>
    obtain ⟨b, cs, h1, h2, h3, h4, h5, h6⟩ := hs
    exact ⟨b, cs, hblk _ h1, cutO_some.2 ⟨h2, hn⟩, h3, allL_rel (Sx.away_ok 9) h h4, h5, h6⟩
  | map es =>
    obtain ⟨b, es', k, h1, h2, h3, h4, h5⟩ := hs
    simp only [Chunk.away, Bool.and_eq_true] at h
    exact ⟨b, es', k, hblk _ h1, cutO_some.2 ⟨h2, hn⟩, h3, allL_rel (Sx.away_ok 9) h.1 h4, allL_rel (Sx.away_ok 9) h.2 h5⟩
  | args B w0 => exact fun b hb => ⟨cutO_some.2 ⟨(hs b hb).1, hn⟩, (hs b hb).2⟩
  | sem x => simp [Chunk.away] at h
  | bag e m =>
    obtain ⟨a, l, c, h1, h2, h3⟩ := hs
    exact ⟨a, l, c, by simp [Env.cut, hn, h1], h2, h3.imp id fun ⟨b, cs, q1, q2, q3⟩ => ⟨b, cs, q1, cutO_some.2 ⟨q2, hn⟩, q3⟩⟩
/-- What of a heap may be kept, when the names from c to c' are forgotten. -/
def Sheds (P : Program) (c c' : Nat) (h2 h' : Heap) : Prop := ∀ n x, h'.get n = some x → inside c c' n = false ∧ h2.get n = some x ∧ x.Away P c c' n
theorem Post.shed {r r' : Env} {ow ow' : Nat → Option Nat} {w w' : World} {c c2 : Nat} {h h2 h' : Heap} (hf : Fresh r c c2)
    (hp : Post P r ow w (stOf c h) r' ow' w' (stOf c2 h2)) (hk : Sheds P c c2 h2 h') : Post P r ow w (stOf c h) (r'.cut c c2) (cutO c c2 ow') w' (stOf c h') ∧ ∀ m, Fresh r c m → Fresh (r'.cut c c2) c m := by
  have hnew : ∀ n, (r'.cut c c2).blk n ≠ none → r.blk n ≠ none := fun n e => by
    simp only [Env.cut] at e
    cases hi : inside c c2 n with
    | true => simp [hi] at e
    | false =>
      simp only [hi, Bool.false_eq_true, if_false] at e
      rcases hp.new.1 n e with q | q
      · exact q
      · rw [inside_iff.2 (show c ≤ n ∧ n < c2 from q)] at hi; cases hi
  have hnew2 : ∀ n, (r'.cut c c2).val n ≠ none → r.val n ≠ none := fun n e => by
    simp only [Env.cut] at e
    cases hi : inside c c2 n with
    | true => simp [hi] at e
    | false =>
      simp only [hi, Bool.false_eq_true, if_false] at e
      rcases hp.new.2 n e with q | q
      · exact q
      · rw [inside_iff.2 (show c ≤ n ∧ n < c2 from q)] at hi; cases hi
  refine ⟨⟨⟨fun n b e => ?_, fun n b e => hp.le.cap n b e, fun n v e => ?_⟩, ⟨fun n x hn => ?_, fun b n e => hp.sat.bound b n (cutO_some.1 e).1, fun b n e => ?_⟩, ⟨hp.frame.os, hp.frame.tape, hp.frame.output, hp.frame.size, fun b hb ho => ?_⟩,
    ⟨fun n e => .inl (hnew n e), fun n e => .inl (hnew2 n e)⟩, Nat.le_refl _, fun b n e => ?_⟩, fun m hm n h1 h2 => ?_⟩
  · have hi : inside c c2 n = false := by
      cases hi : inside c c2 n with
      | false => rfl
      | true => have := hf n (inside_iff.1 hi).1 (inside_iff.1 hi).2; rw [this.1] at e; cases e
    simp [Env.cut, hi, hp.le.blk n b e]
  · have hi : inside c c2 n = false := by
      cases hi : inside c c2 n with
      | false => rfl
      | true => have := hf n (inside_iff.1 hi).1 (inside_iff.1 hi).2; rw [this.2] at e; cases e
    simp [Env.cut, hi, hp.le.val n v e]
  · obtain ⟨_, q2, q3⟩ := hk n x hn
    exact q3 r' ow' w' (hp.sat.chunk n x q2)
  · obtain ⟨q1, q2⟩ := cutO_some.1 e
    simpa [Env.cut, q2] using hp.sat.known b n q1
  · have := hp.frame.keep b hb ho
    refine ⟨?_, this.2⟩
    unfold cutO
    rw [this.1]
  · obtain ⟨q1, q2⟩ := cutO_some.1 e
    rcases hp.own b n q1 with q | q
    · exact .inl q
    · rw [inside_iff.2 (show c ≤ n ∧ n < c2 from q)] at q2; cases q2
  · have := hm n h1 h2
    refine ⟨?_, ?_⟩
    · cases e : (r'.cut c c2).blk n with
      | none => rfl
      | some b => exact absurd this.1 (hnew n (by simp [e]))
    · cases e : (r'.cut c c2).val n with
      | none => rfl
      | some b => exact absurd this.2 (hnew2 n (by simp [e]))

/-! Loops. -/
theorem LoopWp.mono {c : Code} {Q Q' : Exit → Act → World → Prop} {a : Act} {w : World} (h : LoopWp P c Q a w) (hq : ∀ e a w, Q e a w → Q' e a w) : LoopWp P c Q' a w :=
  fun b k cs => let ⟨e, a', w', q, r⟩ := h b k cs; ⟨e, a', w', hq _ _ _ q, r⟩
theorem Post.upto {r r' : Env} {ow ow' : Nat → Option Nat} {w w' : World} {c c1 c2 : Nat} {h h1 : Heap} (hp : Post P r ow w (stOf c h) r' ow' w' (stOf c1 h1)) (hc : c1 ≤ c2) : Post P r ow w (stOf c h) r' ow' w' (stOf c2 h1) :=
  ⟨hp.le, hp.sat, hp.frame, ⟨fun n e => (hp.new.1 n e).imp id fun q => ⟨q.1, Nat.lt_of_lt_of_le q.2 hc⟩, fun n e => (hp.new.2 n e).imp id fun q => ⟨q.1, Nat.lt_of_lt_of_le q.2 hc⟩⟩, Nat.le_trans hp.mono hc,
    fun b n e => (hp.own b n e).imp id fun q => ⟨q.1, Nat.lt_of_lt_of_le q.2 hc⟩⟩
/-- A round that leaves the loop. -/
theorem does_end {code : Code} {c c1 : Nat} {h h1 : Heap} {T Te : List Value} {e : SExit} (he : e ≠ .normal) (hb : Does P c h c1 h1 (.code code T) (.out e Te)) : Does P c h c1 h1 (.inLoop code T) (.out e Te) := by
  refine ⟨hb.1, fun r ow w hs hf a ha hd => ?_⟩
  refine loopWp_step (wp_mono (hb.2 r ow w hs hf a ha hd) ?_)
  intro e' a' w' hq
  cases e' with
  | normal =>
    obtain ⟨hex, _⟩ := hq
    cases e <;> simp only [exitRel] at hex
    exact (he rfl).elim
  | _ => exact hq
/-- A round, what it leaves behind forgotten, and the rest. -/
theorem does_step {code : Code} {c c1 c2 : Nat} {h h1 h2 h' : Heap} {T T2 T' Te : List Value} {e : SExit} (hle : c2 ≤ c1)
    (hb : Does P c h c2 h2 (.code code T) (.out .normal T2)) (hk : Sheds P c c2 h2 h') (hT : ∀ (r : Env) (us : List Value), RelL r T2 us → RelL (r.cut c c2) T' us)
    (hn : Does P c h' c1 h1 (.inLoop code T') (.out e Te)) : Does P c h c1 h1 (.inLoop code T) (.out e Te) := by
  refine ⟨hn.1, fun r ow w hs hf a ha hd => ?_⟩
  refine loopWp_step (wp_mono (hb.2 r ow w hs (hf.sub (Nat.le_refl _) hle) a ha hd) ?_)
  intro e' a' w' ⟨hex, hd', r', ow', hp, ha'⟩
  cases e' <;> simp only [exitRel] at hex
  obtain ⟨hp2, hf2⟩ := hp.shed (hf.sub (Nat.le_refl _) hle) hk
  have k3 := hn.2 _ _ w' hp2.sat (hf2 c1 hf) a' (hT r' _ ha') hd'
  intro b k cs
  obtain ⟨e3, a3, w3, ⟨q1, q2, r3, o3, q3, q4⟩, q5⟩ := k3 b k cs
  exact ⟨e3, a3, w3, ⟨q1, q2, r3, o3, hp2.trans q3, q4⟩, q5⟩

/-- Runs in which a loop's end may be told by advice. -/
def loopX (P : Program) (c : Code) (T : List Value) (live keep : List Nat) (c1 : Nat) (h1 : Heap) (e : SExit) (T' : List Value) : X ARes := fun _ s => match Nat.ble s.c c1 && (namesIn keep s.c c1 h1 && namesBelow s.c (s.h.without keep)) with
  | true => some (.out e T', { s with c := c1, h := h1 ++ s.h.without keep, V := .p (Does P s.c (s.h.only keep) c1 h1 (.inLoop c (keepT live 0 T)) (.out e T')) :: s.V })
  | false => none
def markX (v : Value) : X Unit := fun _ s => some ((), { s with V := .t (.tuple ⟨[v, .int .i64 (s.c : Int)]⟩) true :: s.V })
def stepLoop (P : Program) (ro rec : Rec) (c : Code) (T : List Value) : Option Adv → X ARes
  | some (.loop live keep c1 h1 e T') => loopX P c T live keep c1 h1 e T'
  | some (.cell v) => X.bind (markX v) fun _ => stepT P ro rec (.inLoop c T)
  | some (.br _) => stepT P ro rec (.inLoop c T)
  | none => stepT P ro rec (.inLoop c T)
def stepL (P : Program) (ro rec : Rec) : Task → X ARes
  | .inLoop c T => X.bind X.tick fun a => stepLoop P ro rec c T a
  | .call f as => stepT P ro rec (.call f as)
  | .code c T => stepT P ro rec (.code c T)
  | .inScope c b T => stepT P ro rec (.inScope c b T)
def exT (P : Program) (C : Contracts) : Nat → Rec
  | 0 => fun _ => X.fail
  | n + 1 => stepL P (ex P C n) (exT P C n)
theorem loopX_some {c : Code} {T T' : List Value} {live keep : List Nat} {c1 : Nat} {h1 : Heap} {e : SExit} {d : Advice} {s s' : St} {a : ARes} (h : loopX P c T live keep c1 h1 e T' d s = some (a, s')) :
    (s.c ≤ c1 ∧ namesIn keep s.c c1 h1 = true ∧ namesBelow s.c (s.h.without keep) = true) ∧ a = .out e T' ∧
      s' = { s with c := c1, h := h1 ++ s.h.without keep, V := .p (Does P s.c (s.h.only keep) c1 h1 (.inLoop c (keepT live 0 T)) (.out e T')) :: s.V } := by
  unfold loopX at h
  cases hb : Nat.ble s.c c1 && (namesIn keep s.c c1 h1 && namesBelow s.c (s.h.without keep)) with
  | false => simp [hb] at h
  | true =>
    simp only [hb, Option.some.injEq, Prod.mk.injEq] at h
    simp only [Bool.and_eq_true] at hb
    exact ⟨⟨Nat.le_of_ble_eq_true hb.1, hb.2.1, hb.2.2⟩, h.1.symm, h.2.symm⟩
theorem calm_mark {v : Value} {u : Unit} {d : Advice} {s s' : St} (h : markX v d s = some (u, s')) : Calm s s' := by
  simp only [markX, Option.some.injEq, Prod.mk.injEq] at h
  obtain ⟨_, rfl⟩ := h
  exact ⟨rfl, rfl, vcs_tail⟩
/-- Ahead of a task nothing happens but what is to be shown. -/
theorem TaskSnd.calm {x : X ARes} {t : Task} {d : Advice} {s s1 s' : St} {res : ARes} (hx : TaskSnd P x t) (cm : Calm s s1) (h : x d s1 = some (res, s')) :
    (VCs s'.V → VCs s.V) ∧ (VCs s'.V → ∀ r ow w, Sat P r ow s.h w → Fresh r s.c s'.c → TaskOk P r ow w s s' t res) := by
  obtain ⟨g1, g2⟩ := hx d s1 res s' h
  refine ⟨fun hV => cm.V (g1 hV), fun hV r ow w hs hf => ?_⟩
  have := g2 hV r ow w (by rw [cm.h]; exact hs) (by rw [cm.c]; exact hf)
  have hp : ∀ r' ow' w', Post P r ow w s1 r' ow' w' s' → Post P r ow w s r' ow' w' s' := fun r' ow' w' q =>
    ⟨q.le, q.sat, q.frame, by rw [← cm.c]; exact q.new, by rw [← cm.c]; exact q.mono, by rw [← cm.c]; exact q.own⟩
  cases t <;> cases res <;> try trivial
  · exact fun us hu => Calls.mono (this us hu) fun e w' ⟨r', ow', u, he, q, hv⟩ => ⟨r', ow', u, he, hp _ _ _ q, hv⟩
  · exact fun a ha hd => wp_mono (this a ha hd) fun e' a' w' ⟨q1, q2, r3, o3, q3, q4⟩ => ⟨q1, q2, r3, o3, hp _ _ _ q3, q4⟩
  · exact fun a ha hd => LoopWp.mono (this a ha hd) fun e' a' w' ⟨q1, q2, r3, o3, q3, q4⟩ => ⟨q1, q2, r3, o3, hp _ _ _ q3, q4⟩
  · intro a ha hd b k cs
    obtain ⟨e3, a3, w3, ⟨q1, q2, r3, o3, q3, q4⟩, q5⟩ := this a ha hd b k cs
    exact ⟨e3, a3, w3, ⟨q1, q2, r3, o3, hp _ _ _ q3, q4⟩, q5⟩
theorem stepL_snd (hm : P.follows .mixedOrders = true) {ro rec : Rec} (ho : RecSnd P ro) (hr : RecMono P rec) : RecMono P (stepL P ro rec) := by
  have hM := fun t => stepT_mono (P := P) ho.loc hr.mono t
  have hS := fun t => stepT_snd hm ho hr t
  refine ⟨fun t => ?_, fun t => ?_⟩
  · cases t with
    | call f as => exact hM (.call f as)
    | code c T => exact hM (.code c T)
    | inScope c b T => exact hM (.inScope c b T)
    | inLoop c T =>
      intro d s a s' h
      unfold stepL at h
      obtain ⟨x, s1, h1, h2⟩ := bind_some h
      obtain rfl := tick_some h1
      cases x with
      | none => exact hM (.inLoop c T) d { s with k := s.k + 1 } a s' h2
      | some x => cases x with
        | br b => exact hM (.inLoop c T) d { s with k := s.k + 1 } a s' h2
        | cell v =>
          simp only [stepLoop] at h2
          obtain ⟨_, s2, h3, h4⟩ := bind_some h2
          have cm := calm_mark h3
          have := hM (.inLoop c T) d s2 a s' h4
          rw [cm.c] at this
          exact this
        | loop live keep c1 h1' e T' =>
          simp only [stepLoop] at h2
          obtain ⟨h3, _, rfl⟩ := loopX_some h2
          exact h3.1
  · cases t with
    | call f as => exact hS (.call f as)
    | code c T => exact hS (.code c T)
    | inScope c b T => exact hS (.inScope c b T)
    | inLoop c T =>
      intro d s a s' h
      unfold stepL at h
      obtain ⟨x, s1, h1, h2⟩ := bind_some h
      have cm0 := calm_tick h1
      cases x with
      | none => exact (hS (.inLoop c T)).calm cm0 h2
      | some x => cases x with
        | br b => exact (hS (.inLoop c T)).calm cm0 h2
        | cell v =>
          simp only [stepLoop] at h2
          obtain ⟨_, s2, h3, h4⟩ := bind_some h2
          exact (hS (.inLoop c T)).calm (cm0.trans (calm_mark h3)) h4
        | loop live keep c1 h1' e T' =>
          obtain rfl := tick_some h1
          simp only [stepLoop] at h2
          obtain ⟨hb, rfl, rfl⟩ := loopX_some h2
          refine ⟨fun hV => vcs_tail hV, fun hV r ow w hs hf a ha hd => ?_⟩
          have hdo := vcs_head hV
          simp only [VC.ok] at hdo
          refine LoopWp.mono (hdo.2 r (part keep ow) w (hs.part keep) hf a (keepT_rel live T _ 0 ha) hd) ?_
          intro e' a' w' ⟨q1, q2, r3, o3, q3, q4⟩
          have q5 := Post.join hs hf hb.2.1 hb.2.2 q3
          exact ⟨q1, q2, r3, _, ⟨q5.le, q5.sat, q5.frame, q5.new, q5.mono, q5.own⟩, q4⟩
theorem exT_snd (hm : P.follows .mixedOrders = true) {C : Contracts} (hC : Holds P C) : ∀ n, RecMono P (exT P C n)
  | 0 => ⟨fun _ => MonoX.fail, fun _ _ _ _ _ h => by simp [exT, X.fail] at h⟩
  | n + 1 => stepL_snd hm (ex_snd hm hC n) (exT_snd hm hC n)
/-- What a run tells of a task. -/
theorem does_of_run (hm : P.follows .mixedOrders = true) {C : Contracts} (hC : Holds P C) {n : Nat} {t : Task} {d : Advice} {c : Nat} {h : Heap} {res : ARes} {s' : St}
    (e : exT P C n t d (stOf c h) = some (res, s')) (hV : VCs s'.V) : Does P c h s'.c s'.h t res := by
  have hr := exT_snd hm hC n
  refine ⟨hr.mono t d _ _ s' e, fun r ow w hs hf => ?_⟩
  have := (hr.snd t d _ _ s' e).2 hV r ow w hs hf
  cases t <;> cases res <;> try trivial
  · exact fun us hu => Calls.mono (this us hu) fun e w' ⟨r', ow', u, he, hp, hv⟩ => ⟨r', ow', u, he, ⟨hp.le, hp.sat, hp.frame, hp.new, hp.mono, hp.own⟩, hv⟩
  · exact fun a ha hd => wp_mono (this a ha hd) fun e' a' w' ⟨q1, q2, r3, o3, q3, q4⟩ => ⟨q1, q2, r3, o3, ⟨q3.le, q3.sat, q3.frame, q3.new, q3.mono, q3.own⟩, q4⟩
  · exact fun a ha hd => LoopWp.mono (this a ha hd) fun e' a' w' ⟨q1, q2, r3, o3, q3, q4⟩ => ⟨q1, q2, r3, o3, ⟨q3.le, q3.sat, q3.frame, q3.new, q3.mono, q3.own⟩, q4⟩
  · intro a ha hd b k cs
    obtain ⟨e3, a3, w3, ⟨q1, q2, r3, o3, q3, q4⟩, q5⟩ := this a ha hd b k cs
    exact ⟨e3, a3, w3, ⟨q1, q2, r3, o3, ⟨q3.le, q3.sat, q3.frame, q3.new, q3.mono, q3.own⟩, q4⟩, q5⟩
end Go.Sx
