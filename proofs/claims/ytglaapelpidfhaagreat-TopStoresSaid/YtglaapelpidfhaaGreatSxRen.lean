/- Symbolic executor, part 23: between two rounds of a loop: names are given anew, values forgotten. No condition. -/
import Derived.Test.YtglaapelpidfhaaGreatSxRnd
namespace Go.Sx
variable {P : Program}

/-- Names given anew: the new name, the old one. -/
abbrev Names := List (Nat × Nat)
def Names.src : Names → Nat → Option Nat
  | [], _ => none
  | (m, s) :: ρ, n => match Nat.beq m n with
    | true => some s
    | false => Names.src ρ n
def Names.tgt : Names → Nat → Option Nat
  | [], _ => none
  | (m, s) :: ρ, n => match Nat.beq s n with
    | true => some m
    | false => Names.tgt ρ n
def optIs : Option Nat → Nat → Bool
  | some a, b => Nat.beq a b
  | none, _ => false
theorem optIs_eq {o : Option Nat} {n : Nat} (h : optIs o n = true) : o = some n := by
  cases o with
  | none => simp [optIs] at h
  | some a => rw [Nat.eq_of_beq_eq_true h]
def Names.okFor (all : Names) (c0 cm : Nat) : Names → Bool
  | [] => true
  | (m, s) :: ρ => inside c0 cm m && (optIs (all.src m) s && (optIs (all.tgt s) m && Names.okFor all c0 cm ρ))
def Names.ok (ρ : Names) (c0 cm : Nat) : Bool := Names.okFor ρ c0 cm ρ
theorem Names.okFor_mem {all : Names} {c0 cm m s : Nat} : ∀ {ρ : Names}, Names.okFor all c0 cm ρ = true → (m, s) ∈ ρ → inside c0 cm m = true ∧ all.src m = some s ∧ all.tgt s = some m
  | (m', s') :: ρ, h, hm => by
    simp only [Names.okFor, Bool.and_eq_true] at h
    obtain ⟨h1, h2, h3, h4⟩ := h
    rcases List.mem_cons.1 hm with e | e
    · cases e; exact ⟨h1, optIs_eq h2, optIs_eq h3⟩
    · exact Names.okFor_mem h4 e
theorem Names.src_mem {m s : Nat} : ∀ {ρ : Names}, ρ.src m = some s → (m, s) ∈ ρ
  | [], h => by cases h
  | (m', s') :: ρ, h => by
    simp only [Names.src, nbeq] at h
    by_cases e : m' = m
    · subst e; simp only [decide_true, Option.some.injEq] at h; subst h; exact List.mem_cons_self
    · simp only [e, decide_false] at h; exact List.mem_cons_of_mem _ (Names.src_mem h)
theorem Names.tgt_mem {m s : Nat} : ∀ {ρ : Names}, ρ.tgt s = some m → (m, s) ∈ ρ
  | [], h => by cases h
  | (m', s') :: ρ, h => by
    simp only [Names.tgt, nbeq] at h
    by_cases e : s' = s
    · subst e; simp only [decide_true, Option.some.injEq] at h; subst h; exact List.mem_cons_self
    · simp only [e, decide_false] at h; exact List.mem_cons_of_mem _ (Names.tgt_mem h)
/-- What an old name is called now. -/
def nameOf (ρ : Names) (c0 c1 n : Nat) : Option Nat := match ρ.tgt n with
  | some m => some m
  | none => match inside c0 c1 n with
    | true => none
    | false => some n
def Env.ren (ρ : Names) (c0 c1 : Nat) (r : Env) : Env :=
  ⟨fun n => if inside c0 c1 n then (match ρ.src n with | some s => r.blk s | none => none) else r.blk n,
   fun n => if inside c0 c1 n then (match ρ.src n with | some s => r.cap s | none => r.cap n) else r.cap n,
   fun n => if inside c0 c1 n then (match ρ.src n with | some s => r.val s | none => none) else r.val n⟩
def renO (ρ : Names) (c0 c1 : Nat) (ow : Nat → Option Nat) : Nat → Option Nat := fun b => match ow b with
  | some s => nameOf ρ c0 c1 s
  | none => none
theorem inside_up {c0 cm c1 n : Nat} (h : cm ≤ c1) (hi : inside c0 cm n = true) : inside c0 c1 n = true := by
  rw [inside_iff] at hi ⊢
  omega
theorem ren_at {ρ : Names} {c0 cm c1 n m : Nat} (hρ : ρ.ok c0 cm = true) (hc : cm ≤ c1) (r : Env) (h : nameOf ρ c0 c1 n = some m) :
    (r.ren ρ c0 c1).blk m = r.blk n ∧ (r.ren ρ c0 c1).cap m = r.cap n ∧ (r.ren ρ c0 c1).val m = r.val n := by
  unfold nameOf at h
  cases e : ρ.tgt n with
  | some k =>
    simp only [e, Option.some.injEq] at h
    subst h
    obtain ⟨h1, h2, _⟩ := Names.okFor_mem hρ (Names.tgt_mem e)
    have h3 := inside_up hc h1
    exact ⟨by simp [Env.ren, h3, h2], by simp [Env.ren, h3, h2], by simp [Env.ren, h3, h2]⟩
  | none =>
    simp only [e] at h
    cases hi : inside c0 c1 n with
    | true => simp [hi] at h
    | false =>
      simp only [hi, Option.some.injEq] at h
      subst h
      exact ⟨by simp [Env.ren, hi], by simp [Env.ren, hi], by simp [Env.ren, hi]⟩

/-- A value under the names given anew; what names no name is forgotten. -/
def renV (nm : Nat → Option Nat) : Nat → Value → Value
  | 0, _ => .chan none
  | f + 1, v => match v with
    | .bool b => .bool b
    | .int k n => .int k n
    | .string s => .string s
    | .pointer none => .pointer none
    | .slice none l c => .slice none l c
    | .map none => .map none
    | .nilFunc => .nilFunc
    | .nilIface => .nilIface
    | .pointer (some ⟨n, o, none⟩) => match nm n with
      | some m => .pointer (some ⟨m, o, none⟩)
      | none => .chan none
    | .pointer (some ⟨b, o, some k⟩) => .pointer (some ⟨b, o, some k⟩)
    | .slice (some ⟨n, o, none⟩) l c => match nm n with
      | some m => .slice (some ⟨m, o, none⟩) l c
      | none => .chan none
    | .slice (some ⟨b, o, some k⟩) l c => .slice (some ⟨b, o, some k⟩) l c
    | .map (some n) => match nm n with
      | some m => .map (some m)
      | none => .chan none
    | .chan (some n) => match nm n with
      | some m => .chan (some m)
      | none => .chan none
    | .iface t v => .iface t (renV nm f v)
    | .agg ⟨l⟩ => .agg ⟨l.map (renV nm f)⟩
    | .tuple ⟨l⟩ => .tuple ⟨l.map (renV nm f)⟩
    | .func fn ⟨a⟩ ⟨b⟩ => .func fn ⟨a.map (renV nm f)⟩ ⟨b.map (renV nm f)⟩
    | _ => .chan none
theorem map_relL {r r2 : Env} {g : Value → Value} (hg : ∀ v u, Rel r v u → Rel r2 (g v) u) {l us : List Value} (h : RelL r l us) : RelL r2 (l.map g) us := by
  induction h with
  | nil => exact .nil
  | cons h _ ih => exact .cons (hg _ _ h) ih
theorem renV_ok {r r2 : Env} {nm : Nat → Option Nat} (hb : ∀ n m, nm n = some m → r2.blk m = r.blk n ∧ r2.cap m = r.cap n ∧ r2.val m = r.val n) : ∀ (f : Nat) (v u : Value), Rel r v u → Rel r2 (renV nm f v) u
  | 0, _, _, _ => .any
  | f + 1, v, u, h => by
    have ih := renV_ok hb f
    unfold renV
    split
    · cases h; exact .bool _
    · cases h; exact .int _ _
    · cases h; exact .string _
    · cases h; exact .ptrNil
    · cases h; exact .sliceNil
    · cases h; exact .mapNil
    · cases h; exact .nilFunc
    · cases h; exact .nilIface
    · cases h with
      | ptr hn =>
        split
        · rename_i e; exact .ptr ((hb _ _ e).1.trans hn)
        · exact .any
    · cases h; exact .litPtr
    · cases h with
      | slice hn ho hl h0 h2 =>
        split
        · rename_i e; exact .slice ((hb _ _ e).1.trans hn) ho hl (fun q => by rw [(hb _ _ e).2.1]; exact h0 q) h2
        · exact .any
    · cases h with
      | litSlice hl hs => exact .litSlice hl hs
    · cases h with
      | map hn =>
        split
        · rename_i e; exact .map ((hb _ _ e).1.trans hn)
        · exact .any
    · cases h with
      | opq hn =>
        split
        · rename_i e; exact .opq ((hb _ _ e).2.2.trans hn)
        · exact .any
    · cases h with
      | iface h => exact .iface (ih _ _ h)
    · obtain ⟨ys, rfl, hl⟩ := h.agg_inv
      exact RelL.mkAgg (ys := ys.toList) (map_relL ih hl)
    · obtain ⟨ys, rfl, hl⟩ := h.tuple_inv
      exact RelL.mkTuple (ys := ys.toList) (map_relL ih hl)
    · obtain ⟨ys, bs, rfl, hl, hl'⟩ := h.func_inv
      exact RelL.mkFunc (ys := ys.toList) (bs := bs.toList) (map_relL ih hl) (map_relL ih hl')
    · exact .any
/-- A row of which less is told. -/
inductive Cover : List Value → List Value → Prop
  | nil {l : List Value} : Cover [] l
  | any {v : Value} {l' l : List Value} (h : Cover l' l) : Cover (.chan none :: l') (v :: l)
  | same {v' v : Value} {l' l : List Value} (e : v' = v) (h : Cover l' l) : Cover (v' :: l') (v :: l)
  | ifc {t : TypeId} {v v0 : Value} {l' l : List Value} (e : v = .iface t v0) (h : Cover l' l) : Cover (.iface t (.chan none) :: l') (v :: l)
theorem Cover.refl : ∀ (l : List Value), Cover l l
  | [] => .nil
  | _ :: l => .same rfl (Cover.refl l)
theorem Cover.rel {r : Env} {l' l : List Value} (h : Cover l' l) : ∀ {us : List Value}, RelL r l us → RelL r l' (us.take l'.length) := by
  induction h with
  | nil => intro us _; simp; exact .nil
  | any _ ih => intro us hu; cases hu with | cons h t => exact .cons .any (ih t)
  | same e _ ih => intro us hu; cases hu with | cons h t => subst e; exact .cons h (ih t)
  | ifc e _ ih => intro us hu; cases hu with | cons h t => subst e; cases h with | iface h => exact .cons (.iface .any) (ih t)
theorem Cover.len {l' l : List Value} (h : Cover l' l) : l'.length ≤ l.length := by
  induction h with
  | nil => exact Nat.zero_le _
  | any _ ih => simpa using ih
  | same _ _ ih => simpa using ih
  | ifc _ _ ih => simpa using ih

def Chunk.ren (nm : Nat → Option Nat) : Chunk → Chunk
  | .cells l t => .cells (l.map (renV nm 9)) t
  | .map es => .map (es.map fun p => (renV nm 9 p.1, renV nm 9 p.2))
  | x => x
inductive ChunkInto : Chunk → Chunk → Prop
  | cells {l l' : List Value} {t : TypeId} (h : Cover l' l) : ChunkInto (.cells l t) (.cells l' t)
  | map {es es' : List (Value × Value)} (hl : es'.length = es.length) (h1 : Cover (es'.map (·.1)) (es.map (·.1))) (h2 : Cover (es'.map (·.2)) (es.map (·.2))) : ChunkInto (.map es) (.map es')
  | args {B : Nat} {w : World} : ChunkInto (.args B w) (.args B w)
  | bag {e : TypeId} {m m' : Nat} (h : m ≤ m') : ChunkInto (.bag e m) (.bag e m')
theorem chunk_into {ρ : Names} {c0 cm c1 s n : Nat} (hρ : ρ.ok c0 cm = true) (hc : cm ≤ c1) (hn : nameOf ρ c0 c1 s = some n) {x x' : Chunk} (h : ChunkInto (x.ren (nameOf ρ c0 c1)) x') {r : Env} {ow : Nat → Option Nat} {w : World} (hs : x.sat P r ow w s) :
    x'.sat P (r.ren ρ c0 c1) (renO ρ c0 c1 ow) w n := by
  obtain ⟨e1, e2, e3⟩ := ren_at hρ hc r hn
  have hV := renV_ok (r := r) (r2 := r.ren ρ c0 c1) (nm := nameOf ρ c0 c1) (fun n m h => ren_at hρ hc r h) 9
  have hO : ∀ b, ow b = some s → renO ρ c0 c1 ow b = some n := fun b hb => by simp [renO, hb, hn]
  cases x with
  | cells l t =>
    obtain ⟨b, c, h1, h2, h3, h4, h5, h6⟩ := hs
    cases h with
    | cells hcov =>
      have h7 := hcov.rel (map_relL hV h4)
      have h8 := hcov.len
      rw [List.length_map] at h8
      rw [List.take_take, Nat.min_eq_left h8] at h7
      exact ⟨b, c, e1.trans h1, hO b h2, h3, h7, Nat.le_trans h8 h5, by rw [e2]; exact h6⟩
  | map es =>
    obtain ⟨b, es2, k, h1, h2, h3, h4, h5⟩ := hs
    cases h with
    | map hl hk hv =>
      have g1 := hk.rel (us := es2.toList.map (·.key)) (by have := map_relL hV h4; rw [List.map_map] at this ⊢; exact this)
      have g2 := hv.rel (us := es2.toList.map (·.val)) (by have := map_relL hV h5; rw [List.map_map] at this ⊢; exact this)
      have hlen := h4.length
      rw [List.length_map, List.length_map] at hlen
      rw [List.length_map] at hl
      rw [List.length_map, hl, List.take_of_length_le (by rw [List.length_map]; omega)] at g1 g2
      exact ⟨b, es2, k, e1.trans h1, hO b h2, h3, g1, g2⟩
  | args B w0 =>
    cases h with
    | args => exact fun b hb => ⟨hO b (hs b hb).1, (hs b hb).2⟩
  | sem x => cases h
  | bag e m =>
    obtain ⟨a, l, c, h1, h2, h3⟩ := hs
    cases h with
    | bag hm => exact ⟨a, l, c, e3.trans h1, Nat.le_trans h2 hm, h3.imp id fun ⟨b, cs, q1, q2, q3⟩ => ⟨b, cs, q1, hO b q2, q3⟩⟩
/-- A heap, its names given anew, of which less is told. -/
inductive HeapInto (nm : Nat → Option Nat) : List Nat → List (Option Chunk) → Heap → Prop
  | nil : HeapInto nm [] [] []
  | cons {s n : Nat} {y x' : Chunk} {ss : List Nat} {ys : List (Option Chunk)} {h' : Heap} (hn : nm s = some n) (hx : ChunkInto y x') (ht : HeapInto nm ss ys h') : HeapInto nm (s :: ss) (some y :: ys) ((n, x') :: h')
theorem HeapInto.get {nm : Nat → Option Nat} {h2 : Heap} {n : Nat} {x' : Chunk} : ∀ {ss : List Nat} {ys : List (Option Chunk)} {h' : Heap}, HeapInto nm ss ys h' → (ss.map fun s => (h2.get s).map (Chunk.ren nm)) = ys → h'.get n = some x' →
    ∃ s x, nm s = some n ∧ h2.get s = some x ∧ ChunkInto (x.ren nm) x'
  | _, _, _, .nil, _, hg => by cases hg
  | _, _, _, .cons (s := s) (n := m) hn hx ht, e, hg => by
    simp only [List.map_cons, List.cons.injEq] at e
    simp only [Heap.get, nbeq] at hg
    by_cases e2 : m = n
    · subst e2
      simp only [decide_true, if_true, Option.some.injEq] at hg
      subst hg
      obtain ⟨x, h1, h2⟩ := Option.map_eq_some_iff.1 e.1
      subst h2
      exact ⟨s, x, hn, h1, hx⟩
    · simp only [e2, decide_false, Bool.false_eq_true, if_false] at hg
      exact HeapInto.get ht e.2 hg
/-- What a round comes to is what the next one begins with. -/
structure RenTo (ρ : Names) (c0 c1 : Nat) (h2 : Heap) (T2 : List Value) (h' : Heap) (T' : List Value) : Prop where
  heap : ∀ n x', h'.get n = some x' → ∃ s x, nameOf ρ c0 c1 s = some n ∧ h2.get s = some x ∧ ChunkInto (x.ren (nameOf ρ c0 c1)) x'
  tmps : ∀ r r2 us, (∀ n m, nameOf ρ c0 c1 n = some m → r2.blk m = r.blk n ∧ r2.cap m = r.cap n ∧ r2.val m = r.val n) → RelL r T2 us → RelL r2 T' us
theorem mkT_ren {nm : Nat → Option Nat} {n : Nat} {T2 vs : List Value} {l : List (Nat × Value)} (hn : T2.length = n) (hs : ((l.map (·.1)).map fun k => renV nm 9 (T2.getD k undef)) = vs) (hc : Cover (l.map (·.2)) vs)
    (r r2 : Env) (us : List Value) (hb : ∀ n m, nm n = some m → r2.blk m = r.blk n ∧ r2.cap m = r.cap n ∧ r2.val m = r.val n) (h : RelL r T2 us) : RelL r2 (mkT n 0 l) us := by
  refine mkT_rel n 0 us (by rw [← h.length, hn]) fun j u hu => ?_
  rw [Nat.zero_add]
  refine lookT_rel (fun p hp u2 hu2 => ?_) j u hu
  have key : ∀ {l : List (Nat × Value)} {vs : List Value}, ((l.map (·.1)).map fun k => renV nm 9 (T2.getD k undef)) = vs → Cover (l.map (·.2)) vs → p ∈ l → ∀ u, us[p.1]? = some u → Rel r2 p.2 u := by
    intro l
    induction l with
    | nil => intro vs _ _ hp; cases hp
    | cons q l ih =>
      intro vs e hc hp u hu
      subst e
      simp only [List.map_cons] at hc
      have one : ∀ v', v' = renV nm 9 (T2.getD q.1 undef) → p = q → Rel r2 v' u := fun v' e1 e2 => by
        subst e1; subst e2
        obtain ⟨x, hx, hr⟩ := h.get' p.1 u hu
        have : T2.getD p.1 undef = x := by rw [List.getD_eq_getElem?_getD, hx]; rfl
        rw [this]
        exact renV_ok hb 9 _ _ hr
      rcases List.mem_cons.1 hp with e | e
      · subst e
        generalize p.2 = z at hc ⊢
        cases hc with
        | any _ => exact .any
        | same e2 _ => exact one z e2 rfl
        | ifc e2 _ =>
          have := one _ e2.symm rfl
          cases this with | iface h => exact .iface .any
      · generalize q.2 = z at hc
        cases hc with
        | any hc => exact ih rfl hc e u hu
        | same _ hc => exact ih rfl hc e u hu
        | ifc _ hc => exact ih rfl hc e u hu
  exact key hs hc hp u2 hu2

theorem Post.ren {ρ : Names} {r r' : Env} {ow ow' : Nat → Option Nat} {w w' : World} {c0 cm c1 c2 : Nat} {h0 h2 h' : Heap} (hρ : ρ.ok c0 cm = true) (h0m : c0 ≤ cm) (hm1 : cm ≤ c1) (h21 : c2 ≤ c1) (hf : Fresh r c0 c1)
    (hp : Post P r ow w (stOf c0 h0) r' ow' w' (stOf c2 h2)) (hk : ∀ n x', h'.get n = some x' → ∃ s x, nameOf ρ c0 c1 s = some n ∧ h2.get s = some x ∧ ChunkInto (x.ren (nameOf ρ c0 c1)) x') :
    Post P r ow w (stOf c0 h0) (r'.ren ρ c0 c1) (renO ρ c0 c1 ow') w' (stOf cm h') ∧ Fresh (r'.ren ρ c0 c1) cm c1 := by
  have out : ∀ n, r.blk n ≠ none ∨ r.val n ≠ none → inside c0 c1 n = false := fun n hn => by
    cases hi : inside c0 c1 n with
    | false => rfl
    | true =>
      have := hf n (inside_iff.1 hi).1 (inside_iff.1 hi).2
      rcases hn with q | q
      · exact absurd this.1 q
      · exact absurd this.2 q
  have new : ∀ n, inside c0 c1 n = true → (∃ s, ρ.src n = some s) → c0 ≤ n ∧ n < cm := fun n _ ⟨s, hs⟩ => inside_iff.1 (Names.okFor_mem hρ (Names.src_mem hs)).1
  refine ⟨⟨⟨fun n b e => ?_, fun n b e => ?_, fun n v e => ?_⟩, ⟨fun n x hn => ?_, fun b n e => ?_, fun b n e => ?_⟩, ⟨hp.frame.os, hp.frame.tape, hp.frame.output, hp.frame.size, fun b hb ho => ?_⟩, ⟨fun n e => ?_, fun n e => ?_⟩, h0m, fun b n e => ?_⟩, fun n h1 h2 => ?_⟩
  · have hi := out n (.inl (by rw [e]; simp))
    simp only [Env.ren, hi, Bool.false_eq_true, if_false]
    exact hp.le.blk n b e
  · have hi := out n (.inl (by rw [e]; simp))
    simp only [Env.ren, hi, Bool.false_eq_true, if_false]
    exact hp.le.cap n b e
  · have hi := out n (.inr (by rw [e]; simp))
    simp only [Env.ren, hi, Bool.false_eq_true, if_false]
    exact hp.le.val n v e
  · obtain ⟨s, x0, q1, q2, q3⟩ := hk n x hn
    exact chunk_into hρ hm1 q1 q3 (hp.sat.chunk s x0 q2)
  · unfold renO at e
    cases e2 : ow' b with
    | none => simp [e2] at e
    | some s => exact hp.sat.bound b s e2
  · unfold renO at e
    cases e2 : ow' b with
    | none => simp [e2] at e
    | some s =>
      simp only [e2] at e
      obtain ⟨q1, _, q3⟩ := ren_at hρ hm1 r' e
      rw [q1, q3]
      exact hp.sat.known b s e2
  · have := hp.frame.keep b hb ho
    exact ⟨by simp [renO, this.1], this.2⟩
  · show r.blk n ≠ none ∨ _
    simp only [Env.ren] at e
    cases hi : inside c0 c1 n with
    | true =>
      simp only [hi, if_true] at e
      cases hs : ρ.src n with
      | none => simp [hs] at e
      | some s => exact .inr (new n hi ⟨s, hs⟩)
    | false =>
      simp only [hi, Bool.false_eq_true, if_false] at e
      rcases hp.new.1 n e with q | q
      · exact .inl q
      · have q' : c0 ≤ n ∧ n < c2 := q
        rw [inside_iff.2 ⟨q'.1, Nat.lt_of_lt_of_le q'.2 h21⟩] at hi; cases hi
  · show r.val n ≠ none ∨ _
    simp only [Env.ren] at e
    cases hi : inside c0 c1 n with
    | true =>
      simp only [hi, if_true] at e
      cases hs : ρ.src n with
      | none => simp [hs] at e
      | some s => exact .inr (new n hi ⟨s, hs⟩)
    | false =>
      simp only [hi, Bool.false_eq_true, if_false] at e
      rcases hp.new.2 n e with q | q
      · exact .inl q
      · have q' : c0 ≤ n ∧ n < c2 := q
        rw [inside_iff.2 ⟨q'.1, Nat.lt_of_lt_of_le q'.2 h21⟩] at hi; cases hi
  · unfold renO at e
    cases e2 : ow' b with
    | none => simp [e2] at e
    | some s =>
      simp only [e2] at e
      unfold nameOf at e
      cases e3 : ρ.tgt s with
      | some m =>
        simp only [e3, Option.some.injEq] at e
        subst e
        exact .inr (inside_iff.1 (Names.okFor_mem hρ (Names.tgt_mem e3)).1)
      | none =>
        simp only [e3] at e
        cases hi : inside c0 c1 s with
        | true => simp [hi] at e
        | false =>
          simp only [hi, Option.some.injEq] at e
          subst e
          rcases hp.own b s e2 with q | q
          · exact .inl q
          · have q' : c0 ≤ s ∧ s < c2 := q
            rw [inside_iff.2 ⟨q'.1, Nat.lt_of_lt_of_le q'.2 h21⟩] at hi; cases hi
  · have hi : inside c0 c1 n = true := inside_iff.2 ⟨Nat.le_trans h0m h1, h2⟩
    have hs : ρ.src n = none := by
      cases hs : ρ.src n with
      | none => rfl
      | some s => have := (new n hi ⟨s, hs⟩).2; omega
    exact ⟨by simp [Env.ren, hi, hs], by simp [Env.ren, hi, hs]⟩

/-- In the midst of a loop. -/
def Mid (P : Program) (c0 : Nat) (h0 : Heap) (cm : Nat) (hm : Heap) (c1 : Nat) (h1 : Heap) (code : Code) (T : List Value) (e : SExit) (Tf : List Value) : Prop :=
  ∀ r0 ow0 w0 r ow w, Fresh r0 c0 c1 → Post P r0 ow0 w0 (stOf c0 h0) r ow w (stOf cm hm) → Fresh r cm c1 → ∀ a : Act, RelL r T a.tmps.toList → a.defers = [] → LoopWp P code (Comes' P r0 ow0 w0 (stOf c0 h0) (stOf c1 h1) e Tf) a w
theorem mid_step {ρ : Names} {c0 cm c1 c2 : Nat} {h0 hm hm' h1 h2 : Heap} {code : Code} {T T2 T' Tf : List Value} {e : SExit} (hρ : ρ.ok c0 cm = true) (h0m : c0 ≤ cm) (hm1 : cm ≤ c1) (h21 : c2 ≤ c1)
    (hb : Does P cm hm c2 h2 (.code code T) (.out .normal T2)) (R : RenTo ρ c0 c1 h2 T2 hm' T') (hn : Mid P c0 h0 cm hm' c1 h1 code T' e Tf) : Mid P c0 h0 cm hm c1 h1 code T e Tf := by
  intro r0 ow0 w0 r ow w hf hp hfr a ha hd
  refine loopWp_step (wp_mono (hb.2 r ow w hp.sat (hfr.sub (Nat.le_refl _) h21) a ha hd) ?_)
  intro e' a' w' ⟨hex, hd', r', ow', hp', ha'⟩
  cases e' <;> simp only [exitRel] at hex
  obtain ⟨hq, hf'⟩ := (hp.trans hp').ren hρ h0m hm1 h21 hf R.heap
  exact hn r0 ow0 w0 _ _ w' hf hq hf' a' (R.tmps _ _ _ (fun n m h => ren_at hρ hm1 r' h) ha') hd'
theorem mid_end {ρ : Names} {c0 cm c1 c2 : Nat} {h0 hm h1 h2 : Heap} {code : Code} {T T2 Tf : List Value} {e : SExit} (he : e ≠ .normal) (hρ : ρ.ok c0 c1 = true) (h0m : c0 ≤ cm) (h21 : c2 ≤ c1)
    (hb : Does P cm hm c2 h2 (.code code T) (.out e T2)) (R : RenTo ρ c0 c1 h2 T2 h1 Tf) : Mid P c0 h0 cm hm c1 h1 code T e Tf := by
  intro r0 ow0 w0 r ow w hf hp hfr a ha hd
  have h01 : c0 ≤ c1 := Nat.le_trans h0m (Nat.le_trans hb.1 h21)
  refine loopWp_step (wp_mono (hb.2 r ow w hp.sat (hfr.sub (Nat.le_refl _) h21) a ha hd) ?_)
  intro e' a' w' ⟨hex, hd', r', ow', hp', ha'⟩
  obtain ⟨hq, _⟩ := (hp.trans hp').ren hρ h01 (Nat.le_refl _) h21 hf R.heap
  have fin : Comes' P r0 ow0 w0 (stOf c0 h0) (stOf c1 h1) e Tf e' a' w' := ⟨hex, hd', _, _, hq, R.tmps _ _ _ (fun n m h => ren_at hρ (Nat.le_refl _) r' h) ha'⟩
  cases e' with
  | normal => cases e <;> simp only [exitRel] at hex; exact (he rfl).elim
  | _ => exact fin
/-- A loop, begun. -/
theorem does_of_mid {ρ : Names} {c0 cm c1 : Nat} {h0 hm h1 : Heap} {code : Code} {T0 T Tf : List Value} {e : SExit} (hρ : ρ.ok c0 cm = true) (h0m : c0 ≤ cm) (hm1 : cm ≤ c1) (R : RenTo ρ c0 c1 h0 T0 hm T)
    (hn : Mid P c0 h0 cm hm c1 h1 code T e Tf) : Does P c0 h0 c1 h1 (.inLoop code T0) (.out e Tf) := by
  refine ⟨Nat.le_trans h0m hm1, fun r ow w hs hf a ha hd => ?_⟩
  obtain ⟨hq, hf'⟩ := (Post.calm (P := P) (s := stOf c0 h0) hs (Calm.refl _)).ren hρ h0m hm1 (Nat.le_trans h0m hm1) hf R.heap
  exact hn r ow w _ _ w hf hq hf' a (R.tmps _ _ _ (fun n m h => ren_at hρ hm1 r h) ha) hd

/-- The way out, some temporaries, how many there are, the counter, some pieces, the conditions; the names as they are called now. -/
def rOutR (nm : Nat → Option Nat) (slots ss : List Nat) : Option (ARes × St) → Option (SExit × List Value × Nat × Nat × List (Option Chunk) × List VC)
  | some (.out e T, s) => some (e, slots.map (fun k => renV nm 9 (T.getD k undef)), T.length, s.c, ss.map (fun n => (s.h.get n).map (Chunk.ren nm)), s.V)
  | _ => none
theorem rOutR_does (hm : P.follows .mixedOrders = true) {C : Contracts} (hC : Holds P C) {nm : Nat → Option Nat} {n : Nat} {t : Task} {d : Advice} {c : Nat} {h : Heap} {slots ss : List Nat} {e : SExit} {vs : List Value} {len c2 : Nat} {ys : List (Option Chunk)} {L : List VC}
    (e0 : rOutR nm slots ss (exT P C n t d (stOf c h)) = some (e, vs, len, c2, ys, L)) (hV : VCs L) :
    ∃ T2 h2, Does P c h c2 h2 t (.out e T2) ∧ (slots.map fun k => renV nm 9 (T2.getD k undef)) = vs ∧ T2.length = len ∧ (ss.map fun n => (h2.get n).map (Chunk.ren nm)) = ys := by
  match e1 : exT P C n t d (stOf c h), e0 with
  | some (.out e' T, s'), e0 =>
    simp only [rOutR, Option.some.injEq, Prod.mk.injEq] at e0
    obtain ⟨rfl, rfl, rfl, rfl, rfl, rfl⟩ := e0
    exact ⟨T, s'.h, does_of_run hm hC e1 hV, rfl, rfl, rfl⟩
theorem renTo_mk {ρ : Names} {c0 c1 n : Nat} {h2 h' : Heap} {T2 vs : List Value} {l : List (Nat × Value)} {ss : List Nat} {ys : List (Option Chunk)}
    (hs : ((l.map (·.1)).map fun k => renV (nameOf ρ c0 c1) 9 (T2.getD k undef)) = vs) (hn : T2.length = n) (hy : (ss.map fun k => (h2.get k).map (Chunk.ren (nameOf ρ c0 c1))) = ys)
    (hc : Cover (l.map (·.2)) vs) (hh : HeapInto (nameOf ρ c0 c1) ss ys h') : RenTo ρ c0 c1 h2 T2 h' (mkT n 0 l) :=
  ⟨fun _ _ hg => hh.get hy hg, fun r r2 us hb h => mkT_ren hn hs hc r r2 us hb h⟩
theorem vc_b {c b : Bool} (h : c = b) : VC.ok (.b (c == b)) := by subst h; exact beq_self_eq_true c
theorem vc_c {c : Bool} (h : c = true) : VC.ok (.b c) := h
end Go.Sx
