/- Symbolic executor, part 23: between two rounds of a loop: names are given anew, values forgotten. No condition. -/
import Derived.Test.YtkmicbhnfochjaaGreatDoorMSxRnd

namespace Go.Sx
variable {P : Program}

/-- Names given anew: the new name, the old one. -/
abbrev Names := List (Nat × Nat)
def Names.src : Names → Nat → Option Nat
  | [], _ => none
  | (m, s) :: ρ, n => match Nat.beq m n with
    | true => some s
    | false => Names.src ρ n
def Names.tgt : Names → Nat → Option Nat
  | [], _ => none
  | (m, s) :: ρ, n => match Nat.beq s n with
    | true => some m
    | false => Names.tgt ρ n
def optIs : Option Nat → Nat → Bool
  | some a, b => Nat.beq a b
  | none, _ => false
theorem optIs_eq {o : Option Nat} {n : Nat} (h : optIs o n = true) : o = some n := by
  cases o with
  | none => simp [optIs] at h
  | some a => rw [Nat.eq_of_beq_eq_true h]
def Names.okFor (all : Names) (c0 cm : Nat) : Names → Bool
  | [] => true
  | (m, s) :: ρ => inside c0 cm m && (optIs (all.src m) s && (optIs (all.tgt s) m && Names.okFor all c0 cm ρ))
def Names.ok (ρ : Names) (c0 cm : Nat) : Bool := Names.okFor ρ c0 cm ρ
theorem Names.okFor_mem {all : Names} {c0 cm m s : Nat} : ∀ {ρ : Names}, Names.okFor all c0 cm ρ = true → (m, s) ∈ ρ → inside c0 cm m = true ∧ all.src m = some s ∧ all.tgt s = some m
  | (m', s') :: ρ, h, hm => by
    simp only [Names.okFor, Bool.and_eq_true] at h
    obtain ⟨h1, h2, h3, h4⟩ := h
    rcases List.mem_cons.1 hm with e | e
    · cases e; exact ⟨h1, optIs_eq h2, optIs_eq h3⟩
    · exact Names.okFor_mem h4 e
theorem Names.src_mem {m s : Nat} : ∀ {ρ : Names}, ρ.src m = some s → (m, s) ∈ ρ
  | [], h => by cases h
  | (m', s') :: ρ, h => by
    simp only [Names.src, nbeq] at h
    by_cases e : m' = m
    · subst e; simp only [decide_true, Option.some.injEq] at h; subst h; exact List.mem_cons_self
    · simp only [e, decide_false] at h; exact List.mem_cons_of_mem _ (Names.src_mem h)
theorem Names.tgt_mem {m s : Nat} : ∀ {ρ : Names}, ρ.tgt s = some m → (m, s) ∈ ρ
  | [], h => by cases h
  | (m', s') :: ρ, h => by
    simp only [Names.tgt, nbeq] at h
    by_cases e : s' = s
    · subst e; simp only [decide_true, Option.some.injEq] at h; subst h; exact List.mem_cons_self
    · simp only [e, decide_false] at h; exact List.mem_cons_of_mem _ (Names.tgt_mem h)
/-- What an old name is called now. -/
def nameOf (ρ : Names) (c0 c1 n : Nat) : Option Nat := match ρ.tgt n with
  | some m => some m
  | none => match inside c0 c1 n with
    | true => none
    | false => some n
def Env.ren (ρ : Names) (c0 c1 : Nat) (r : Env) : Env :=
  ⟨fun n => if inside c0 c1 n then (match ρ.src n with | some s => r.blk s | none => none) else r.blk n,
   fun n => if inside c0 c1 n then (match ρ.src n with | some s => r.cap s | none => r.cap n) else r.cap n,
   fun n => if inside c0 c1 n then (match ρ.src n with | some s => r.val s | none => none) else r.val n⟩
def renO (ρ : Names) (c0 c1 : Nat) (ow : Nat → Option Nat) : Nat → Option Nat := fun b => match ow b with
  | some s => nameOf ρ c0 c1 s
  | none => none
theorem inside_up {c0 cm c1 n : Nat} (h : cm ≤ c1) (hi : inside c0 cm n = true) : inside c0 c1 n = true := by
  rw [inside_iff] at hi ⊢
  omega
theorem ren_at {ρ : Names} {c0 cm c1 n m : Nat} (hρ : ρ.ok c0 cm = true) (hc : cm ≤ c1) (r : Env) (h : nameOf ρ c0 c1 n = some m) :
    (r.ren ρ c0 c1).blk m = r.blk n ∧ (r.ren ρ c0 c1).cap m = r.cap n ∧ (r.ren ρ c0 c1).val m = r.val n := by
  unfold nameOf at h
  cases e : ρ.tgt n with
  | some k =>
    simp only [e, Option.some.injEq] at h
    subst h
    obtain ⟨h1, h2, _⟩ := Names.okFor_mem hρ (Names.tgt_mem e)
    have h3 := inside_up hc h1
    exact ⟨by simp [Env.ren, h3, h2], by simp [Env.ren, h3, h2], by simp [Env.ren, h3, h2]⟩
  | none =>
    simp only [e] at h
    cases hi : inside c0 c1 n with
    | true => simp [hi] at h
    | false =>
      simp only [hi, Option.some.injEq] at h
      subst h
      exact ⟨by simp [Env.ren, hi], by simp [Env.ren, hi], by simp [Env.ren, hi]⟩

/-- A value under the names given anew; what names no name is forgotten. -/
def renV (nm : Nat → Option Nat) : Nat → Value → Value
  | 0, _ => .chan none
  | f + 1, v => match v with
    | .bool b => .bool b
    | .int k n => .int k n
    | .string s => .string s
    | .pointer none => .pointer none
    | .slice none l c => .slice none l c
    | .map none => .map none
    | .nilFunc => .nilFunc
    | .nilIface => .nilIface
    | .pointer (some ⟨n, o, none⟩) => match nm n with
      | some m => .pointer (some ⟨m, o, none⟩)
      | none => .chan none
    | .pointer (some ⟨b, o, some k⟩) => .pointer (some ⟨b, o, some k⟩)
    | .slice (some ⟨n, o, none⟩) l c => match nm n with
      | some m => .slice (some ⟨m, o, none⟩) l c
      | none => .chan none
    | .slice (some ⟨b, o, some k⟩) l c => .slice (some ⟨b, o, some k⟩) l c
    | .map (some n) => match nm n with
      | some m => .map (some m)
      | none => .chan none
    | .chan (some n) => match nm n with
      | some m => .chan (some m)
      | none => .chan none
    | .iface t v => .iface t (renV nm f v)
    | .agg ⟨l⟩ => .agg ⟨l.map (renV nm f)⟩
    | .tuple ⟨l⟩ => .tuple ⟨l.map (renV nm f)⟩
    | .func fn ⟨a⟩ ⟨b⟩ => .func fn ⟨a.map (renV nm f)⟩ ⟨b.map (renV nm f)⟩
    | _ => .chan none
theorem map_relL {r r2 : Env} {g : Value → Value} (hg : ∀ v u, Rel r v u → Rel r2 (g v) u) {l us : List Value} (h : RelL r l us) : RelL r2 (l.map g) us := by
  induction h with
  | nil => exact .nil
  | cons h _ ih => exact .cons (hg _ _ h) ih
theorem renV_ok {r r2 : Env} {nm : Nat → Option Nat} (hb : ∀ n m, nm n = some m → r2.blk m = r.blk n ∧ r2.cap m = r.cap n ∧ r2.val m = r.val n) : ∀ (f : Nat) (v u : Value), Rel r v u → Rel r2 (renV nm f v) u
  | 0, _, _, _ => .any
  | f + 1, v, u, h => by
    have ih := renV_ok hb f
    unfold renV
    split
    · cases h; exact .bool _
    · cases h; exact .int _ _
    · cases h; exact .string _
    · cases h; exact .ptrNil
    · cases h; exact .sliceNil
    · cases h; exact .mapNil
    · cases h; exact .nilFunc
    · cases h; exact .nilIface
    · cases h with
      | ptr hn =>
        split
        · rename_i e; exact .ptr ((hb _ _ e).1.trans hn)
        · exact .any
    · cases h; exact .litPtr
    · cases h with
      | slice hn ho hl h0 h2 =>
        split
        · rename_i e; exact .slice ((hb _ _ e).1.trans hn) ho hl (fun q => by rw [(hb _ _ e).2.1]; exact h0 q) h2
        · exact .any
    · cases h with
      | litSlice hl hs => exact .litSlice hl hs
    · cases h with
      | map hn =>
        split
        · rename_i e; exact .map ((hb _ _ e).1.trans hn)
        · exact .any
    · cases h with
      | opq hn =>
        split
        · rename_i e; exact .opq ((hb _ _ e).2.2.trans hn)
        · exact .any
    · cases h with
      | iface h => exact .iface (ih _ _ h)
    · obtain ⟨ys, rfl, hl⟩ := h.agg_inv
      exact RelL.mkAgg (ys := ys.toList) (map_relL ih hl)
    · obtain ⟨ys, rfl, hl⟩ := h.tuple_inv
      exact RelL.mkTuple (ys := ys.toList) (map_relL ih hl)
    · obtain ⟨ys, bs, rfl, hl, hl'⟩ := h.func_inv
      exact RelL.mkFunc (ys := ys.toList) (bs := bs.toList) (map_relL ih hl) (map_relL ih hl')
    · exact .any
/-- A row of which less is told. -/
inductive Cover : List Value → List Value → Prop
  | nil {l : List Value} : Cover [] l
  | any {v : Value} {l' l : List Value} (h : Cover l' l) : Cover (.chan none :: l') (v :: l)
  | same {v' v : Value} {l' l : List Value} (e : v' = v) (h : Cover l' l) : Cover (v' :: l') (v :: l)
  | ifc {t : TypeId} {v v0 : Value} {l' l : List Value} (e : v = .iface t v0) (h : Cover l' l) : Cover (.iface t (.chan none) :: l') (v :: l)
theorem Cover.refl : ∀ (l : List Value), Cover l l
  | [] => .nil
  | _ :: l => .same rfl (Cover.refl l)
theorem Cover.rel {r : Env} {l' l : List Value} (h : Cover l' l) : ∀ {us : List Value}, RelL r l us → RelL r l' (us.take l'.length) := by
  induction h with
  | nil => intro us _; simp; exact .nil
  | any _ ih => intro us hu; cases hu with | cons h t => exact .cons .any (ih t)
  | same e _ ih => intro us hu; cases hu with | cons h t => subst e; exact .cons h (ih t)
  | ifc e _ ih => intro us hu; cases hu with | cons h t => subst e; cases h with | iface h => exact .cons (.iface .any) (ih t)
theorem Cover.len {l' l : List Value} (h : Cover l' l) : l'.length ≤ l.length := by
  induction h with
  | nil => exact Nat.zero_le _
  | any _ ih => simpa using ih
  | same _ _ ih => simpa using ih
  | ifc _ _ ih => simpa using ih

def Chunk.ren (nm : Nat → Option Nat) : Chunk → Chunk
  | .cells l t => .cells (l.map (renV nm 9)) t
  | .map es => .map (es.map fun p => (renV nm 9 p.1, renV nm 9 p.2))
  | x => x
inductive ChunkInto : Chunk → Chunk → Prop
  | cells {l l' : List Value} {t : TypeId} (h : Cover l' l) : ChunkInto (.cells l t) (.cells l' t)
  | map {es es' : List (Value × Value)} (hl : es'.length = es.length) (h1 : Cover (es'.map (·.1)) (es.map (·.1))) (h2 : Cover (es'.map (·.2)) (es.map (·.2))) : ChunkInto (.map es) (.map es')
  | args {B : Nat} {w : World} : ChunkInto (.args B w) (.args B w)
  | bag {e : TypeId} {m m' : Nat} (h : m ≤ m') : ChunkInto (.bag e m) (.bag e m')
  | iter {s : ByteArray} {pos : Nat} : ChunkInto (.iter s pos) (.iter s pos)
theorem chunk_into {ρ : Names} {c0 cm c1 s n : Nat} (hρ : ρ.ok c0 cm = true) (hc : cm ≤ c1) (hn : nameOf ρ c0 c1 s = some n) {x x' : Chunk} (h : ChunkInto (x.ren (nameOf ρ c0 c1)) x') {r : Env} {ow : Nat → Option Nat} {w : World} (hs : x.sat P r ow w s) :
    x'.sat P (r.ren ρ c0 c1) (renO ρ c0 c1 ow) w n := by
  obtain ⟨e1, e2, e3⟩ := ren_at hρ hc r hn
  have hV := renV_ok (r := r) (r2 := r.ren ρ c0 c1) (nm := nameOf ρ c0 c1) (fun n m h => ren_at hρ hc r h) 9
  have hO : ∀ b, ow b = some s → renO ρ c0 c1 ow b = some n := fun b hb => by simp [renO, hb, hn]
  cases x with
  | cells l t =>
    obtain ⟨b, c, h1, h2, h3, h4, h5, h6⟩ := hs
    cases h with
    | cells hcov =>
      have h7 := hcov.rel (map_relL hV h4)
      have h8 := hcov.len
      rw [List.length_map] at h8
      rw [List.take_take, Nat.min_eq_left h8] at h7
      exact ⟨b, c, e1.trans h1, hO b h2, h3, h7, Nat.le_trans h8 h5, by rw [e2]; exact h6⟩
  | map es =>
    obtain ⟨b, es2, k, h1, h2, h3, h4, h5⟩ := hs
    cases h with
    | map hl hk hv =>
      have g1 := hk.rel (us := es2.toList.map (·.key)) (by have := map_relL hV h4; rw [List.map_map] at this ⊢; exact this)
      have g2 := hv.rel (us := es2.toList.map (·.val)) (by have := map_relL hV h5; rw [List.map_map] at this ⊢; exact this)
      have hlen := h4.length
      rw [List.length_map, List.length_map] at hlen
      rw [List.length_map] at hl
      rw [List.length_map, hl, List.take_of_length_le (by rw [List.length_map]; omega)] at g1 g2
      exact ⟨b, es2, k, e1.trans h1, hO b h2, h3, g1, g2⟩
  | args B w0 =>
    cases h with
    | args => exact fun b hb => ⟨hO b (hs b hb).1, (hs b hb).2⟩
  | sem x => cases h
  | bag e m =>
    obtain ⟨a, l, c, h1, h2, h3⟩ := hs
    cases h with
    | bag hm => exact ⟨a, l, c, e3.trans h1, Nat.le_trans h2 hm, h3.imp id fun ⟨b, cs, q1, q2, q3⟩ => ⟨b, cs, q1, hO b q2, q3⟩⟩
  | iter s pos =>
    obtain ⟨b, h1, h2, h3⟩ := hs
    cases h with
    | iter => exact ⟨b, e1.trans h1, hO b h2, h3⟩
/-- A heap, its names given anew, of which less is told. -/
inductive HeapInto (nm : Nat → Option Nat) : List Nat → List (Option Chunk) → Heap → Prop
  | nil : HeapInto nm [] [] []
  | cons {s n : Nat} {y x' : Chunk} {ss : List Nat} {ys : List (Option Chunk)} {h' : Heap} (hn : nm s = some n) (hx : ChunkInto y x') (ht : HeapInto nm ss ys h') : HeapInto nm (s :: ss) (some y :: ys) ((n, x') :: h')
theorem HeapInto.get {nm : Nat → Option Nat} {h2 : Heap} {n : Nat} {x' : Chunk} : ∀ {ss : List Nat} {ys : List (Option Chunk)} {h' : Heap}, HeapInto nm ss ys h' → (ss.map fun s => (h2.get s).map (Chunk.ren nm)) = ys → h'.get n = some x' →
    ∃ s x, nm s = some n ∧ h2.get s = some x ∧ ChunkInto (x.ren nm) x'
  | _, _, _, .nil, _, hg => by cases hg
  | _, _, _, .cons (s := s) (n := m) hn hx ht, e, hg => by
    simp only [List.map_cons, List.cons.injEq] at e
    simp only [Heap.get, nbeq] at hg
    by_cases e2 : m = n
    · subst e2
      simp only [decide_true, if_true, Option.some.injEq] at hg
      subst hg
      obtain ⟨x, h1, h2⟩ := Option.map_eq_some_iff.1 e.1
      subst h2
      exact ⟨s, x, hn, h1, hx⟩
    · simp only [e2, decide_false, Bool.false_eq_true, if_false] at hg
      exact HeapInto.get ht e.2 hg
/-- What a round comes to is what the next one begins with. -/
structure RenTo (ρ : Names) (c0 c1 : Nat) (h2 : Heap) (T2 : List Value) (h' : Heap) (T' : List Value) : Prop where
  heap : ∀ n x', h'.get n = some x' → ∃ s x, nameOf ρ c0 c1 s = some n ∧ h2.get s = some x ∧ ChunkInto (x.ren (nameOf ρ c0 c1)) x'
  tmps : ∀ r r2 us, (∀ n m, nameOf ρ c0 c1 n = some m → r2.blk m = r.blk n ∧ r2.cap m = r.cap n ∧ r2.val m = r.val n) → RelL r T2 us → RelL r2 T' us
theorem mkT_ren {nm : Nat → Option Nat} {n : Nat} {T2 vs : List Value} {l : List (Nat × Value)} (hn : T2.length = n) (hs : ((l.map (·.1)).map fun k => renV nm 9 (T2.getD k undef)) = vs) (hc : Cover (l.map (·.2)) vs)
    (r r2 : Env) (us : List Value) (hb : ∀ n m, nm n = some m → r2.blk m = r.blk n ∧ r2.cap m = r.cap n ∧ r2.val m = r.val n) (h : RelL r T2 us) : RelL r2 (mkT n 0 l) us := by
  refine mkT_rel n 0 us (by rw [← h.length, hn]) fun j u hu => ?_
  rw [Nat.zero_add]
  refine lookT_rel (fun p hp u2 hu2 => ?_) j u hu
  have key : ∀ {l : List (Nat × Value)} {vs : List Value}, ((l.map (·.1)).map fun k => renV nm 9 (T2.getD k undef)) = vs → Cover (l.map (·.2)) vs → p ∈ l → ∀ u, us[p.1]? = some u → Rel r2 p.2 u := by
    intro l
    induction l with
    | nil => intro vs _ _ hp; cases hp
    | cons q l ih =>
      intro vs e hc hp u hu
      subst e
      simp only [List.map_cons] at hc
      have one : ∀ v', v' = renV nm 9 (T2.getD q.1 undef) → p = q → Rel r2 v' u := fun v' e1 e2 => by
        subst e1; subst e2
        obtain ⟨x, hx, hr⟩ := h.get' p.1 u hu
        have : T2.getD p.1 undef = x := by rw [List.getD_eq_getElem?_getD, hx]; rfl
        rw [this]
        exact renV_ok hb 9 _ _ hr
      rcases List.mem_cons.1 hp with e | e
      · subst e
        generalize p.2 = z at hc ⊢
        cases hc with
        | any _ => exact .any
        | same e2 _ => exact one z e2 rfl
        | ifc e2 _ =>
          have := one _ e2.symm rfl
          cases this with | iface h => exact .iface .any
      · generalize q.2 = z at hc
        cases hc with
        | any hc => exact ih rfl hc e u hu
        | same _ hc => exact ih rfl hc e u hu
        | ifc _ hc => exact ih rfl hc e u hu
  exact key hs hc hp u2 hu2

theorem Post.ren {ρ : Names} {r r' : Env} {ow ow' : Nat → Option Nat} {w w' : World} {c0 cm c1 c2 : Nat} {h0 h2 h' : Heap} (hρ : ρ.ok c0 cm = true) (h0m : c0 ≤ cm) (hm1 : cm ≤ c1) (h21 : c2 ≤ c1) (hf : Fresh r c0 c1)
    (hp : Post P r ow w (stOf c0 h0) r' ow' w' (stOf c2 h2)) (hk : ∀ n x', h'.get n = some x' → ∃ s x, nameOf ρ c0 c1 s = some n ∧ h2.get s = some x ∧ ChunkInto (x.ren (nameOf ρ c0 c1)) x') :
    Post P r ow w (stOf c0 h0) (r'.ren ρ c0 c1) (renO ρ c0 c1 ow') w' (stOf cm h') ∧ Fresh (r'.ren ρ c0 c1) cm c1 := by
  have out : ∀ n, r.blk n ≠ none ∨ r.val n ≠ none → inside c0 c1 n = false := fun n hn => by
    cases hi : inside c0 c1 n with
    | false => rfl
    | true =>
      have := hf n (inside_iff.1 hi).1 (inside_iff.1 hi).2
      rcases hn with q | q
      · exact absurd this.1 q
      · exact absurd this.2 q
  have new : ∀ n, inside c0 c1 n = true → (∃ s, ρ.src n = some s) → c0 ≤ n ∧ n < cm := fun n _ ⟨s, hs⟩ => inside_iff.1 (Names.okFor_mem hρ (Names.src_mem hs)).1
  refine ⟨⟨⟨fun n b e => ?_, fun n b e => ?_, fun n v e => ?_⟩, ⟨fun n x hn => ?_, fun b n e => ?_, fun b n e => ?_⟩, ⟨hp.frame.os, hp.frame.tape, hp.frame.output, hp.frame.size, fun b hb ho => ?_⟩, ⟨fun n e => ?_, fun n e => ?_⟩, h0m, fun b n e => ?_⟩, fun n h1 h2 => ?_⟩
  · have hi := out n (.inl (by rw [e]; simp))
    simp only [Env.ren, hi, Bool.false_eq_true, if_false]
    exact hp.le.blk n b e
  · have hi := out n (.inl (by rw [e]; simp))
    simp only [Env.ren, hi, Bool.false_eq_true, if_false]
    exact hp.le.cap n b e
  · have hi := out n (.inr (by rw [e]; simp))
    simp only [Env.ren, hi, Bool.false_eq_true, if_false]
    exact hp.le.val n v e
  · obtain ⟨s, x0, q1, q2, q3⟩ := hk n x hn
    exact chunk_into hρ hm1 q1 q3 (hp.sat.chunk s x0 q2)
  · unfold renO at e
    cases e2 : ow' b with
    | none => simp [e2] at e
    | some s => exact hp.sat.bound b s e2
  · unfold renO at e
    cases e2 : ow' b with
    | none => simp [e2] at e
    | some s =>
      simp only [e2] at e
      obtain ⟨q1, _, q3⟩ := ren_at hρ hm1 r' e
      rw [q1, q3]
      exact hp.sat.known b s e2
  · have := hp.frame.keep b hb ho
    exact ⟨by simp [renO, this.1], this.2⟩
  · show r.blk n ≠ none ∨ _
    simp only [Env.ren] at e
    cases hi : inside c0 c1 n with
    | true =>
      simp only [hi, if_true] at e
      cases hs : ρ.src n with
      | none => simp [hs] at e
      | some s => exact .inr (new n hi ⟨s, hs⟩)
    | false =>
      simp only [hi, Bool.false_eq_true, if_false] at e
      rcases hp.new.1 n e with q | q
      · exact .inl q
      · have q' : c0 ≤ n ∧ n < c2 := q
        rw [inside_iff.2 ⟨q'.1, Nat.lt_of_lt_of_le q'.2 h21⟩] at hi; cases hi
  · show r.val n ≠ none ∨ _
    simp only [Env.ren] at e
    cases hi : inside c0 c1 n with
    | true =>
      simp only [hi, if_true] at e
      cases hs : ρ.src n with
      | none => simp [hs] at e
      | some s => exact .inr (new n hi ⟨s, hs⟩)
    | false =>
      simp only [hi, Bool.false_eq_true, if_false] at e
      rcases hp.new.2 n e with q | q
      · exact .inl q
      · have q' : c0 ≤ n ∧ n < c2 := q
        rw [inside_iff.2 ⟨q'.1, Nat.lt_of_lt_of_le q'.2 h21⟩] at hi; cases hi
  · unfold renO at e
    cases e2 : ow' b with
    | none => simp [e2] at e
    | some s =>
      simp only [e2] at e
      unfold nameOf at e
      cases e3 : ρ.tgt s with
      | some m =>
        simp only [e3, Option.some.injEq] at e
        subst e
        exact .inr (inside_iff.1 (Names.okFor_mem hρ (Names.tgt_mem e3)).1)
      | none =>
        simp only [e3] at e
        cases hi : inside c0 c1 s with
        | true => simp [hi] at e
        | false =>
          simp only [hi, Option.some.injEq] at e
          subst e
          rcases hp.own b s e2 with q | q
          · exact .inl q
          · have q' : c0 ≤ s ∧ s < c2 := q
            rw [inside_iff.2 ⟨q'.1, Nat.lt_of_lt_of_le q'.2 h21⟩] at hi; cases hi
  · have hi : inside c0 c1 n = true := inside_iff.2 ⟨Nat.le_trans h0m h1, h2⟩
    have hs : ρ.src n = none := by
      cases hs : ρ.src n with
      | none => rfl
      | some s => have := (new n hi ⟨s, hs⟩).2; omega
    exact ⟨by simp [Env.ren, hi, hs], by simp [Env.ren, hi, hs]⟩

/-- In the midst of a loop. -/
def Mid (P : Program) (c0 : Nat) (h0 : Heap) (cm : Nat) (hm : Heap) (c1 : Nat) (h1 : Heap) (code : Code) (T : List Value) (e : SExit) (Tf : List Value) : Prop :=
  ∀ r0 ow0 w0 r ow w, Fresh r0 c0 c1 → Post P r0 ow0 w0 (stOf c0 h0) r ow w (stOf cm hm) → Fresh r cm c1 → ∀ a : Act, RelL r T a.tmps.toList → a.defers = [] → LoopWp P code (Comes' P r0 ow0 w0 (stOf c0 h0) (stOf c1 h1) e Tf) a w
theorem mid_step {ρ : Names} {c0 cm c1 c2 : Nat} {h0 hm hm' h1 h2 : Heap} {code : Code} {T T2 T' Tf : List Value} {e : SExit} (hρ : ρ.ok c0 cm = true) (h0m : c0 ≤ cm) (hm1 : cm ≤ c1) (h21 : c2 ≤ c1)
    (hb : Does P cm hm c2 h2 (.code code T) (.out .normal T2)) (R : RenTo ρ c0 c1 h2 T2 hm' T') (hn : Mid P c0 h0 cm hm' c1 h1 code T' e Tf) : Mid P c0 h0 cm hm c1 h1 code T e Tf := by
  intro r0 ow0 w0 r ow w hf hp hfr a ha hd
  refine loopWp_step (wp_mono (hb.2 r ow w hp.sat (hfr.sub (Nat.le_refl _) h21) a ha hd) ?_)
  intro e' a' w' ⟨hex, hd', r', ow', hp', ha'⟩
  cases e' <;> simp only [exitRel] at hex
  obtain ⟨hq, hf'⟩ := (hp.trans hp').ren hρ h0m hm1 h21 hf R.heap
  exact hn r0 ow0 w0 _ _ w' hf hq hf' a' (R.tmps _ _ _ (fun n m h => ren_at hρ hm1 r' h) ha') hd'
theorem mid_end {ρ : Names} {c0 cm c1 c2 : Nat} {h0 hm h1 h2 : Heap} {code : Code} {T T2 Tf : List Value} {e : SExit} (he : e ≠ .normal) (hρ : ρ.ok c0 c1 = true) (h0m : c0 ≤ cm) (h21 : c2 ≤ c1)
    (hb : Does P cm hm c2 h2 (.code code T) (.out e T2)) (R : RenTo ρ c0 c1 h2 T2 h1 Tf) : Mid P c0 h0 cm hm c1 h1 code T e Tf := by
  intro r0 ow0 w0 r ow w hf hp hfr a ha hd
  have h01 : c0 ≤ c1 := Nat.le_trans h0m (Nat.le_trans hb.1 h21)
  refine loopWp_step (wp_mono (hb.2 r ow w hp.sat (hfr.sub (Nat.le_refl _) h21) a ha hd) ?_)
  intro e' a' w' ⟨hex, hd', r', ow', hp', ha'⟩
  obtain ⟨hq, _⟩ := (hp.trans hp').ren hρ h01 (Nat.le_refl _) h21 hf R.heap
  have fin : Comes' P r0 ow0 w0 (stOf c0 h0) (stOf c1 h1) e Tf e' a' w' := ⟨hex, hd', _, _, hq, R.tmps _ _ _ (fun n m h => ren_at hρ (Nat.le_refl _) r' h) ha'⟩
  cases e' with
  | normal => cases e <;> simp only [exitRel] at hex; exact (he rfl).elim
  | _ => exact fin
/-- A loop, begun. -/
theorem does_of_mid {ρ : Names} {c0 cm c1 : Nat} {h0 hm h1 : Heap} {code : Code} {T0 T Tf : List Value} {e : SExit} (hρ : ρ.ok c0 cm = true) (h0m : c0 ≤ cm) (hm1 : cm ≤ c1) (R : RenTo ρ c0 c1 h0 T0 hm T)
    (hn : Mid P c0 h0 cm hm c1 h1 code T e Tf) : Does P c0 h0 c1 h1 (.inLoop code T0) (.out e Tf) := by
  refine ⟨Nat.le_trans h0m hm1, fun r ow w hs hf a ha hd => ?_⟩
  obtain ⟨hq, hf'⟩ := (Post.calm (P := P) (s := stOf c0 h0) hs (Calm.refl _)).ren hρ h0m hm1 (Nat.le_trans h0m hm1) hf R.heap
  exact hn r ow w _ _ w hf hq hf' a (R.tmps _ _ _ (fun n m h => ren_at hρ hm1 r h) ha) hd

/-- The way out, some temporaries, how many there are, the counter, some pieces, the conditions; the names as they are called now. -/
def rOutR (nm : Nat → Option Nat) (slots ss : List Nat) : Option (ARes × St) → Option (SExit × List Value × Nat × Nat × List (Option Chunk) × List VC)
  | some (.out e T, s) => some (e, slots.map (fun k => renV nm 9 (T.getD k undef)), T.length, s.c, ss.map (fun n => (s.h.get n).map (Chunk.ren nm)), s.V)
  | _ => none
theorem rOutR_does (hm : P.follows .mixedOrders = true) {C : Contracts} (hC : Holds P C) {nm : Nat → Option Nat} {n : Nat} {t : Task} {d : Advice} {c : Nat} {h : Heap} {slots ss : List Nat} {e : SExit} {vs : List Value} {len c2 : Nat} {ys : List (Option Chunk)} {L : List VC}
    (e0 : rOutR nm slots ss (exT P C n t d (stOf c h)) = some (e, vs, len, c2, ys, L)) (hV : VCs L) :
    ∃ T2 h2, Does P c h c2 h2 t (.out e T2) ∧ (slots.map fun k => renV nm 9 (T2.getD k undef)) = vs ∧ T2.length = len ∧ (ss.map fun n => (h2.get n).map (Chunk.ren nm)) = ys := by
  match e1 : exT P C n t d (stOf c h), e0 with
  | some (.out e' T, s'), e0 =>
    simp only [rOutR, Option.some.injEq, Prod.mk.injEq] at e0
    obtain ⟨rfl, rfl, rfl, rfl, rfl, rfl⟩ := e0
    exact ⟨T, s'.h, does_of_run hm hC e1 hV, rfl, rfl, rfl⟩
theorem renTo_mk {ρ : Names} {c0 c1 n : Nat} {h2 h' : Heap} {T2 vs : List Value} {l : List (Nat × Value)} {ss : List Nat} {ys : List (Option Chunk)}
    (hs : ((l.map (·.1)).map fun k => renV (nameOf ρ c0 c1) 9 (T2.getD k undef)) = vs) (hn : T2.length = n) (hy : (ss.map fun k => (h2.get k).map (Chunk.ren (nameOf ρ c0 c1))) = ys)
    (hc : Cover (l.map (·.2)) vs) (hh : HeapInto (nameOf ρ c0 c1) ss ys h') : RenTo ρ c0 c1 h2 T2 h' (mkT n 0 l) :=
  ⟨fun _ _ hg => hh.get hy hg, fun r r2 us hb h => mkT_ren hn hs hc r r2 us hb h⟩
theorem vc_b {c b : Bool} (h : c = b) : VC.ok (.b (c == b)) := by subst h; exact beq_self_eq_true c
theorem vc_c {c : Bool} (h : c = true) : VC.ok (.b c) := h
end Go.Sx

namespace Go.Sx
variable {P : Program}

def codeF (P : Program) (ro rec : Rec) (c : Code) (T : List Value) : X ARes := match c with
  | .region _ ops false => X.bind (seqOps P rec ops.toList ops.toList T) fun T' => X.pure (.out .normal T')
  | c => stepT P ro rec (.code c T)
def stepF (P : Program) (ro rec : Rec) : Task → X ARes
  | .inLoop c T => X.bind X.tick fun a => stepLoop P ro rec c T a
  | .call f as => stepT P ro rec (.call f as)
  | .inScope c b T => stepT P ro rec (.inScope c b T)
  | .code c T => codeF P ro rec c T
def exF (P : Program) (C : Contracts) : Nat → Rec
  | 0 => fun _ => X.fail
  | n + 1 => fun t => match C t with
    | some x => x
    | none => stepF P (ex P C n) (exF P C n) t
theorem stepF_snd (hm : P.follows .mixedOrders = true) {ro rec : Rec} (ho : RecSnd P ro) (hr : RecMono P rec) (t : Task) : MonoX (stepF P ro rec t) ∧ TaskSnd P (stepF P ro rec t) t := by
  have hL := stepL_snd hm ho hr
  cases t with
  | inLoop c T => exact ⟨hL.mono (.inLoop c T), hL.snd (.inLoop c T)⟩
  | call f as => exact ⟨hL.mono (.call f as), hL.snd (.call f as)⟩
  | inScope c b T => exact ⟨hL.mono (.inScope c b T), hL.snd (.inScope c b T)⟩
  | code c T =>
    show MonoX (codeF P ro rec c T) ∧ TaskSnd P (codeF P ro rec c T) (.code c T)
    unfold codeF
    split
    · rename_i id ops
      refine ⟨MonoX.bind (MonoX.seqOps hr.mono _ _ _) fun _ => MonoX.pure _, fun d s res s' h => ?_⟩
      obtain ⟨T', s1, h1, h2⟩ := bind_some h
      obtain ⟨rfl, rfl⟩ := pure_some h2
      obtain ⟨g1, g2⟩ := seqOps_snd hr ops.toList 0 T T' d s s1 (by simp) h1
      refine ⟨g1, fun hV r ow w hs hf a ha hd => wp_region ?_⟩
      rw [List.range_eq_range']
      exact g2 hV r ow w a hs hf ha hd _ fun r' ow' a' w' hp ha' hd' => ⟨trivial, hd', r', ow', hp, ha'⟩
    · exact ⟨hL.mono (.code _ T), hL.snd (.code _ T)⟩
theorem exF_snd (hm : P.follows .mixedOrders = true) {C : Contracts} (hC : Holds P C) : ∀ n, RecMono P (exF P C n)
  | 0 => ⟨fun _ => MonoX.fail, fun _ _ _ _ _ h => by simp [exF, X.fail] at h⟩
  | n + 1 => by
    refine ⟨fun t => ?_, fun t => ?_⟩
    · simp only [exF]
      cases e : C t with
      | some x => exact (hC.loc t x e).monoX
      | none => exact (stepF_snd hm (ex_snd hm hC n) (exF_snd hm hC n) t).1
    · simp only [exF]
      cases e : C t with
      | some x => exact hC.snd t x e
      | none => exact (stepF_snd hm (ex_snd hm hC n) (exF_snd hm hC n) t).2
/-- What a run tells of a task. -/
theorem does_of_far (hm : P.follows .mixedOrders = true) {C : Contracts} (hC : Holds P C) {n : Nat} {t : Task} {d : Advice} {c : Nat} {h : Heap} {res : ARes} {s' : St}
    (e : exF P C n t d (stOf c h) = some (res, s')) (hV : VCs s'.V) : Does P c h s'.c s'.h t res := by
  have hr := exF_snd hm hC n
  refine ⟨hr.mono t d _ _ s' e, fun r ow w hs hf => ?_⟩
  have := (hr.snd t d _ _ s' e).2 hV r ow w hs hf
  cases t <;> cases res <;> try trivial
  · exact fun us hu => Calls.mono (this us hu) fun e w' ⟨r', ow', u, he, hp, hv⟩ => ⟨r', ow', u, he, ⟨hp.le, hp.sat, hp.frame, hp.new, hp.mono, hp.own⟩, hv⟩
  · exact fun a ha hd => wp_mono (this a ha hd) fun e' a' w' ⟨q1, q2, r3, o3, q3, q4⟩ => ⟨q1, q2, r3, o3, ⟨q3.le, q3.sat, q3.frame, q3.new, q3.mono, q3.own⟩, q4⟩
  · exact fun a ha hd => LoopWp.mono (this a ha hd) fun e' a' w' ⟨q1, q2, r3, o3, q3, q4⟩ => ⟨q1, q2, r3, o3, ⟨q3.le, q3.sat, q3.frame, q3.new, q3.mono, q3.own⟩, q4⟩
  · intro a ha hd b k cs
    obtain ⟨e3, a3, w3, ⟨q1, q2, r3, o3, q3, q4⟩, q5⟩ := this a ha hd b k cs
    exact ⟨e3, a3, w3, ⟨q1, q2, r3, o3, ⟨q3.le, q3.sat, q3.frame, q3.new, q3.mono, q3.own⟩, q4⟩, q5⟩
theorem vFar_does (hm : P.follows .mixedOrders = true) {C : Contracts} (hC : Holds P C) {n : Nat} {t : Task} {d : Advice} {c : Nat} {h : Heap} {v : Value} {x : Option Chunk} {L : List VC}
    (e0 : vOut (exF P C n t d (stOf c h)) = some (v, x, L)) (hV : VCs L) : ∃ c1 h1, Does P c h c1 h1 t (.val v) ∧ h1.get 0 = x := by
  match e1 : exF P C n t d (stOf c h), e0 with
  | some (.val v', s'), e0 =>
    simp only [vOut, Option.some.injEq, Prod.mk.injEq] at e0
    obtain ⟨rfl, rfl, rfl⟩ := e0
    exact ⟨s'.c, s'.h, does_of_far hm hC e1 hV, rfl⟩
theorem rFar_does (hm : P.follows .mixedOrders = true) {C : Contracts} (hC : Holds P C) {nm : Nat → Option Nat} {n : Nat} {t : Task} {d : Advice} {c : Nat} {h : Heap} {slots ss : List Nat} {e : SExit} {vs : List Value} {len c2 : Nat} {ys : List (Option Chunk)} {L : List VC}
    (e0 : rOutR nm slots ss (exF P C n t d (stOf c h)) = some (e, vs, len, c2, ys, L)) (hV : VCs L) :
    ∃ T2 h2, Does P c h c2 h2 t (.out e T2) ∧ (slots.map fun k => renV nm 9 (T2.getD k undef)) = vs ∧ T2.length = len ∧ (ss.map fun n => (h2.get n).map (Chunk.ren nm)) = ys := by
  match e1 : exF P C n t d (stOf c h), e0 with
  | some (.out e' T, s'), e0 =>
    simp only [rOutR, Option.some.injEq, Prod.mk.injEq] at e0
    obtain ⟨rfl, rfl, rfl, rfl, rfl, rfl⟩ := e0
    exact ⟨T, s'.h, does_of_far hm hC e1 hV, rfl, rfl, rfl⟩
end Go.Sx

namespace Go.Sx
variable {P : Program}

def maskV : Value → Value → Value
  | .chan none, _ => .chan none
  | .iface _ (.chan none), .iface t _ => .iface t (.chan none)
  | _, v => v
def maskL : List Value → List Value → List Value
  | [], _ => []
  | _ :: _, [] => []
  | t :: ts, v :: vs => maskV t v :: maskL ts vs
theorem maskV_cover {t v : Value} {ts vs : List Value} (h : maskV t v = t) (hc : Cover ts vs) : Cover (t :: ts) (v :: vs) := by
  unfold maskV at h
  split at h
  · exact .any hc
  · cases h; exact .ifc rfl hc
  · exact .same h.symm hc
theorem maskL_cover : ∀ {ts vs : List Value}, maskL ts vs = ts → Cover ts vs
  | [], _, _ => .nil
  | _ :: _, [], h => by cases h
  | t :: ts, v :: vs, h => by
    simp only [maskL, List.cons.injEq] at h
    exact maskV_cover h.1 (maskL_cover h.2)
def maskC : Chunk → Chunk → Chunk
  | .cells ts _, .cells vs t => .cells (maskL ts vs) t
  | _, x => x
theorem maskC_into {x' x : Chunk} {nm : Nat → Option Nat} (hx : ∀ z, x ≠ .sem z) (h : maskC x' (x.ren nm) = x') : ChunkInto (x.ren nm) x' := by
  cases x with
  | cells vs t =>
    cases x' with
    | cells ts t' =>
      simp only [Chunk.ren, maskC, Chunk.cells.injEq] at h
      obtain ⟨h1, rfl⟩ := h
      exact .cells (maskL_cover h1)
    | _ => simp [Chunk.ren, maskC] at h
  | map es =>
    have h' : Chunk.map (es.map fun p => (renV nm 9 p.1, renV nm 9 p.2)) = x' := by
      rw [← h]; cases x' <;> rfl
    subst h'
    exact .map rfl (Cover.refl _) (Cover.refl _)
  | args B w0 =>
    have h' : Chunk.args B w0 = x' := by rw [← h]; cases x' <;> rfl
    subst h'
    exact .args
  | sem z => exact absurd rfl (hx z)
  | bag e m =>
    have h' : Chunk.bag e m = x' := by rw [← h]; cases x' <;> rfl
    subst h'
    exact .bag (Nat.le_refl _)
  | iter s pos =>
    have h' : Chunk.iter s pos = x' := by rw [← h]; cases x' <;> rfl
    subst h'
    exact .iter
def noSem : Chunk → Bool
  | .sem _ => false
  | _ => true
/-- A piece held against a target: by its looks, or (a row of open length) by a condition. -/
def holdC (nm : Nat → Option Nat) (loose : Bool) (x' x : Chunk) : Option (Chunk × List VC) := match loose with
  | false => some (maskC x' (x.ren nm), [])
  | true => match x', x.ren nm with
    | .cells ts t', .cells vs t => match Nat.beq t t' with
      | true => some (.cells ts t', [.p (Cover ts vs)])
      | false => none
    | _, _ => none
theorem holdC_into {nm : Nat → Option Nat} {loose : Bool} {x' x : Chunk} {L : List VC} (hx : ∀ z, x ≠ .sem z) (h : holdC nm loose x' x = some (x', L)) (hV : VCs L) : ChunkInto (x.ren nm) x' := by
  unfold holdC at h
  cases loose with
  | false =>
    simp only [Option.some.injEq, Prod.mk.injEq] at h
    exact maskC_into hx h.1
  | true =>
    simp only at h
    cases x with
    | cells l t0 =>
      cases x' with
      | cells ts t' =>
        simp only [Chunk.ren] at h
        split at h
        · rename_i e
          have := Nat.eq_of_beq_eq_true e
          subst this
          simp only [Option.some.injEq, Prod.mk.injEq, true_and] at h
          subst h
          exact .cells (vcs_head hV)
        · cases h
      | _ => simp [Chunk.ren] at h
    | _ => cases x' <;> simp [Chunk.ren] at h
def maskH (nm : Nat → Option Nat) (h2 : Heap) : List (Nat × Bool) → Heap → Option (Heap × List VC)
  | [], [] => some ([], [])
  | (s, b) :: ss, (_, x') :: h' => match h2.get s with
    | some x => match noSem x with
      | true => match nm s with
        | some m => match holdC nm b x' x with
          | some (y, L) => match maskH nm h2 ss h' with
            | some (g, L') => some ((m, y) :: g, L ++ L')
            | none => none
          | none => none
        | none => none
      | false => none
    | none => none
  | _, _ => none
theorem maskH_get {nm : Nat → Option Nat} {h2 : Heap} {n : Nat} {y : Chunk} : ∀ {ss : List (Nat × Bool)} {h' : Heap} {L : List VC}, maskH nm h2 ss h' = some (h', L) → VCs L → h'.get n = some y →
    ∃ s x, nm s = some n ∧ h2.get s = some x ∧ ChunkInto (x.ren nm) y
  | [], [], _, _, _, hg => by cases hg
  | [], _ :: _, _, h, _, _ => by simp [maskH] at h
  | _ :: _, [], _, h, _, _ => by simp [maskH] at h
  | (s, b) :: ss, (k, x') :: h', L, h, hV, hg => by
    simp only [maskH] at h
    cases e1 : h2.get s with
    | none => simp [e1] at h
    | some x =>
      simp only [e1] at h
      cases e2 : noSem x with
      | false => simp [e2] at h
      | true =>
        simp only [e2] at h
        cases e3 : nm s with
        | none => simp [e3] at h
        | some m =>
          simp only [e3] at h
          cases e6 : holdC nm b x' x with
          | none => simp [e6] at h
          | some q =>
            obtain ⟨z, L1⟩ := q
            simp only [e6] at h
            cases e4 : maskH nm h2 ss h' with
            | none => simp [e4] at h
            | some g =>
              obtain ⟨g, L2⟩ := g
              simp only [e4, Option.some.injEq, List.cons.injEq, Prod.mk.injEq] at h
              obtain ⟨⟨⟨rfl, rfl⟩, rfl⟩, rfl⟩ := h
              have hV1 : VCs L1 := fun v hv => hV v (List.mem_append_left _ hv)
              have hV2 : VCs L2 := fun v hv => hV v (List.mem_append_right _ hv)
              simp only [Heap.get, nbeq] at hg
              by_cases e5 : m = n
              · subst e5
                simp only [decide_true, if_true, Option.some.injEq] at hg
                subst hg
                exact ⟨s, x, e3, e1, holdC_into (fun z e => by subst e; simp [noSem] at e2) e6 hV1⟩
              · simp only [e5, decide_false, Bool.false_eq_true, if_false] at hg
                exact maskH_get e4 hV2 hg
/-- The way out, the temporaries and pieces that are looked at, how many temporaries, the counter, the conditions. -/
def rOutM (nm : Nat → Option Nat) (l : List (Nat × Value)) (ss : List (Nat × Bool)) (h' : Heap) : Option (ARes × St) → Option (SExit × List Value × Nat × Nat × Heap × List VC × List VC)
  | some (.out e T, s) => match maskH nm s.h ss h' with
    | some (g, L) => some (e, maskL (l.map (·.2)) ((l.map (·.1)).map fun k => renV nm 9 (T.getD k undef)), T.length, s.c, g, L, s.V)
    | none => none
  | _ => none
theorem rOutM_does (hm : P.follows .mixedOrders = true) {C : Contracts} (hC : Holds P C) {ρ : Names} {c0 c1 n : Nat} {t : Task} {d : Advice} {c : Nat} {h h' : Heap} {l : List (Nat × Value)} {ss : List (Nat × Bool)} {e : SExit} {len c2 : Nat} {L L' : List VC}
    (e0 : rOutM (nameOf ρ c0 c1) l ss h' (exF P C n t d (stOf c h)) = some (e, l.map (·.2), len, c2, h', L', L)) (hV' : VCs L') (hV : VCs L) :
    ∃ T2 h2, Does P c h c2 h2 t (.out e T2) ∧ RenTo ρ c0 c1 h2 T2 h' (mkT len 0 l) := by
  match e1 : exF P C n t d (stOf c h), e0 with
  | some (.out e' T, s'), e0 =>
    simp only [rOutM] at e0
    cases e2 : maskH (nameOf ρ c0 c1) s'.h ss h' with
    | none => simp [e2] at e0
    | some g =>
      obtain ⟨g, L1⟩ := g
      simp only [e2, Option.some.injEq, Prod.mk.injEq] at e0
      obtain ⟨rfl, h1, rfl, rfl, rfl, rfl, rfl⟩ := e0
      exact ⟨T, s'.h, does_of_far hm hC e1 hV, ⟨fun n y hg => maskH_get e2 hV' hg, fun r r2 us hb hr => mkT_ren rfl rfl (maskL_cover h1) r r2 us hb hr⟩⟩
/-- A round goes on with the next. -/
def Goes (P : Program) (c0 cm c1 : Nat) (hm : Heap) (code : Code) (T : List Value) (hm' : Heap) (T' : List Value) : Prop :=
  ∃ ρ T2 c2 h2, Names.ok ρ c0 cm = true ∧ c2 ≤ c1 ∧ Does P cm hm c2 h2 (.code code T) (.out .normal T2) ∧ RenTo ρ c0 c1 h2 T2 hm' T'
/-- A round ends the loop. -/
def Ends (P : Program) (c0 cm c1 : Nat) (hm : Heap) (code : Code) (T : List Value) (e : SExit) (h1 : Heap) (Tf : List Value) : Prop :=
  ∃ ρ T2 c2 h2, Names.ok ρ c0 c1 = true ∧ c2 ≤ c1 ∧ Does P cm hm c2 h2 (.code code T) (.out e T2) ∧ RenTo ρ c0 c1 h2 T2 h1 Tf
theorem Goes.mid {c0 cm c1 : Nat} {h0 hm hm' h1 : Heap} {code : Code} {T T' Tf : List Value} {e : SExit} (h : Goes P c0 cm c1 hm code T hm' T') (h0m : c0 ≤ cm) (hm1 : cm ≤ c1) (hn : Mid P c0 h0 cm hm' c1 h1 code T' e Tf) : Mid P c0 h0 cm hm c1 h1 code T e Tf := by
  obtain ⟨ρ, T2, c2, h2, a, b, c, d⟩ := h
  exact mid_step a h0m hm1 b c d hn
theorem Ends.mid {c0 cm c1 : Nat} {h0 hm h1 : Heap} {code : Code} {T Tf : List Value} {e : SExit} (h : Ends P c0 cm c1 hm code T e h1 Tf) (he : e ≠ .normal) (h0m : c0 ≤ cm) : Mid P c0 h0 cm hm c1 h1 code T e Tf := by
  obtain ⟨ρ, T2, c2, h2, a, b, c, d⟩ := h
  exact mid_end he a h0m b c d
theorem goes_of (hm : P.follows .mixedOrders = true) {C : Contracts} (hC : Holds P C) (ρ : Names) {c0 cm c1 n : Nat} {code : Code} {T : List Value} {d : Advice} {h h' : Heap} {l : List (Nat × Value)} (ss : List (Nat × Bool)) {len c2 : Nat} {L L' : List VC}
    (e0 : rOutM (nameOf ρ c0 c1) l ss h' (exF P C n (.code code T) d (stOf cm h)) = some (.normal, l.map (·.2), len, c2, h', L', L)) (hρ : Names.ok ρ c0 cm = true) (hc : Nat.ble c2 c1 = true) (hV' : VCs L') (hV : VCs L) : Goes P c0 cm c1 h code T h' (mkT len 0 l) := by
  obtain ⟨T2, h2, a, b⟩ := rOutM_does hm hC e0 hV' hV
  exact ⟨ρ, T2, c2, h2, hρ, Nat.le_of_ble_eq_true hc, a, b⟩
theorem ends_of (hm : P.follows .mixedOrders = true) {C : Contracts} (hC : Holds P C) (ρ : Names) {c0 cm c1 n : Nat} {code : Code} {T : List Value} {d : Advice} {h h' : Heap} {l : List (Nat × Value)} (ss : List (Nat × Bool)) {e : SExit} {len c2 : Nat} {L L' : List VC}
    (e0 : rOutM (nameOf ρ c0 c1) l ss h' (exF P C n (.code code T) d (stOf cm h)) = some (e, l.map (·.2), len, c2, h', L', L)) (hρ : Names.ok ρ c0 c1 = true) (hc : Nat.ble c2 c1 = true) (hV' : VCs L') (hV : VCs L) : Ends P c0 cm c1 h code T e h' (mkT len 0 l) := by
  obtain ⟨T2, h2, a, b⟩ := rOutM_does hm hC e0 hV' hV
  exact ⟨ρ, T2, c2, h2, hρ, Nat.le_of_ble_eq_true hc, a, b⟩
/-- The loop's entry: a heap of which less is told, under other names. -/
def maskEntry (nm : Nat → Option Nat) (l : List (Nat × Value)) (ss : List (Nat × Bool)) (h0 : Heap) (T0 : List Value) (h' : Heap) : Option (List Value × Nat × Heap × List VC) := match maskH nm h0 ss h' with
  | some (g, L) => some (maskL (l.map (·.2)) ((l.map (·.1)).map fun k => renV nm 9 (T0.getD k undef)), T0.length, g, L)
  | none => none
theorem entry_of {ρ : Names} {c0 c1 len : Nat} {h0 h' : Heap} {T0 : List Value} {l : List (Nat × Value)} (ss : List (Nat × Bool)) {L : List VC} (e0 : maskEntry (nameOf ρ c0 c1) l ss h0 T0 h' = some (l.map (·.2), len, h', L)) (hV : VCs L) : RenTo ρ c0 c1 h0 T0 h' (mkT len 0 l) := by
  unfold maskEntry at e0
  cases e2 : maskH (nameOf ρ c0 c1) h0 ss h' with
  | none => simp [e2] at e0
  | some g =>
    obtain ⟨g, L1⟩ := g
    simp only [e2, Option.some.injEq, Prod.mk.injEq] at e0
    obtain ⟨h1, rfl, rfl, rfl⟩ := e0
    exact ⟨fun n y hg => maskH_get e2 hV hg, fun r r2 us hb hr => mkT_ren rfl rfl (maskL_cover h1) r r2 us hb hr⟩
/-- A row of which nothing is told but its length. -/
def anyRow (n : Nat) : List Value := List.replicate n (.chan none)
theorem any_cover : ∀ {n : Nat} {l : List Value}, n ≤ l.length → Cover (anyRow n) l
  | 0, _, _ => .nil
  | n + 1, [], h => by simp at h
  | n + 1, _ :: l, h => .any (any_cover (by simpa using h))
end Go.Sx

namespace Go.Sx
variable {P : Program}

/-- What a piece does, its names given anew, with less told of it. -/
theorem does_ren {ρ : Names} {c0 c1 c2 : Nat} {h0 h2 h' : Heap} {code : Code} {T T2 T' : List Value} {e : SExit} (hρ : ρ.ok c0 c1 = true) (h21 : c2 ≤ c1) (hb : Does P c0 h0 c2 h2 (.code code T) (.out e T2)) (R : RenTo ρ c0 c1 h2 T2 h' T') :
    Does P c0 h0 c1 h' (.code code T) (.out e T') := by
  have h01 : c0 ≤ c1 := Nat.le_trans hb.1 h21
  refine ⟨h01, fun r ow w hs hf a ha hd => ?_⟩
  refine wp_mono (hb.2 r ow w hs (hf.sub (Nat.le_refl _) h21) a ha hd) ?_
  intro e' a' w' ⟨hex, hd', r', ow', hp, ha'⟩
  obtain ⟨hq, _⟩ := hp.ren hρ h01 (Nat.le_refl _) h21 hf R.heap
  exact ⟨hex, hd', _, _, hq, R.tmps _ _ _ (fun n m h => ren_at hρ (Nat.le_refl _) r' h) ha'⟩
/-- A run of a piece, held against what it is to come to. -/
theorem does_of (hm : P.follows .mixedOrders = true) {C : Contracts} (hC : Holds P C) (ρ : Names) {c0 c1 n : Nat} {code : Code} {T : List Value} {d : Advice} {h h' : Heap} {l : List (Nat × Value)} (ss : List (Nat × Bool)) {e : SExit} {len c2 : Nat} {L L' : List VC}
    (e0 : rOutM (nameOf ρ c0 c1) l ss h' (exF P C n (.code code T) d (stOf c0 h)) = some (e, l.map (·.2), len, c2, h', L', L)) (hρ : Names.ok ρ c0 c1 = true) (hc : Nat.ble c2 c1 = true) (hV' : VCs L') (hV : VCs L) : Does P c0 h c1 h' (.code code T) (.out e (mkT len 0 l)) := by
  obtain ⟨T2, h2, a, b⟩ := rOutM_does hm hC e0 hV' hV
  exact does_ren hρ (Nat.le_of_ble_eq_true hc) a b
theorem does_seq {c0 c1 c2 : Nat} {h0 h1 h2 : Heap} {a b : Code} {T T1 T2 : List Value} {e : SExit} (ha : Does P c0 h0 c1 h1 (.code a T) (.out .normal T1)) (hb : Does P c1 h1 c2 h2 (.code b T1) (.out e T2)) : Does P c0 h0 c2 h2 (.code (.seq a b) T) (.out e T2) := by
  refine ⟨Nat.le_trans ha.1 hb.1, fun r ow w hs hf x hx hd => ?_⟩
  refine wp_seq (wp_mono (ha.2 r ow w hs (hf.sub (Nat.le_refl _) hb.1) x hx hd) ?_)
  intro e' a' w' ⟨hex, hd', r', ow', hp, ha'⟩
  cases e' <;> simp only [exitRel] at hex
  refine wp_mono (hb.2 r' ow' w' hp.sat (hf.after hp.new ha.1) a' ha' hd') ?_
  intro e2 a2 w2 ⟨q1, q2, r3, o3, q3, q4⟩
  exact ⟨q1, q2, r3, o3, hp.trans q3, q4⟩
theorem does_seq_out {c0 c1 : Nat} {h0 h1 : Heap} {a b : Code} {T T1 : List Value} {e : SExit} (he : e ≠ .normal) (ha : Does P c0 h0 c1 h1 (.code a T) (.out e T1)) : Does P c0 h0 c1 h1 (.code (.seq a b) T) (.out e T1) := by
  refine ⟨ha.1, fun r ow w hs hf x hx hd => ?_⟩
  refine wp_seq (wp_mono (ha.2 r ow w hs hf x hx hd) ?_)
  intro e' a' w' hq
  cases e' with
  | normal => obtain ⟨hex, _⟩ := hq; cases e <;> simp only [exitRel] at hex; exact (he rfl).elim
  | _ => exact hq
theorem does_loop {c0 c1 : Nat} {h0 h1 : Heap} {a : Code} {T T1 : List Value} {e : SExit} (ha : Does P c0 h0 c1 h1 (.inLoop a T) (.out e T1)) : Does P c0 h0 c1 h1 (.code (.loop a) T) (.out e T1) :=
  ⟨ha.1, fun r ow w hs hf x hx hd => wp_loop_of (ha.2 r ow w hs hf x hx hd)⟩
theorem does_block_exit {c0 c1 id : Nat} {h0 h1 : Heap} {a : Code} {T T1 : List Value} (ha : Does P c0 h0 c1 h1 (.code a T) (.out (.exit id) T1)) : Does P c0 h0 c1 h1 (.code (.block id a) T) (.out .normal T1) := by
  refine ⟨ha.1, fun r ow w hs hf x hx hd => ?_⟩
  refine wp_block (wp_mono (ha.2 r ow w hs hf x hx hd) ?_)
  intro e' a' w' ⟨hex, hq⟩
  cases e' <;> simp only [exitRel] at hex
  subst hex
  simp only [Exit.inBlock, if_true]
  exact ⟨trivial, hq⟩
theorem does_block {c0 c1 id : Nat} {h0 h1 : Heap} {a : Code} {T T1 : List Value} {e : SExit} (he : e ≠ .exit id) (ha : Does P c0 h0 c1 h1 (.code a T) (.out e T1)) : Does P c0 h0 c1 h1 (.code (.block id a) T) (.out e T1) := by
  refine ⟨ha.1, fun r ow w hs hf x hx hd => ?_⟩
  refine wp_block (wp_mono (ha.2 r ow w hs hf x hx hd) ?_)
  intro e' a' w' hq
  cases e' with
  | exit j =>
    obtain ⟨hex, hq⟩ := hq
    cases e with
    | exit i =>
      have hij : i = j := hex
      have hne : ¬ (j = id) := fun q => he (by rw [hij, q])
      simp only [Exit.inBlock, if_neg hne]
      exact ⟨hex, hq⟩
    | _ => simp only [exitRel] at hex
  | _ => exact hq
/-- A run as it stands: no name given anew, the heap told whole. -/
def rawOut (slots : List Nat) : Option (ARes × St) → Option (SExit × List Value × Nat × Nat × Heap × List VC)
  | some (.out e T, s) => some (e, slots.map fun k => T.getD k undef, T.length, s.c, s.h, s.V)
  | _ => none
theorem cut_none (r : Env) (c : Nat) : r.cut c c = r := by
  have : ∀ n, inside c c n = false := fun n => by
    cases h : inside c c n with
    | false => rfl
    | true => have := inside_iff.1 h; omega
  unfold Env.cut
  simp only [this, Bool.false_eq_true, if_false]
theorem mkT_raw {r : Env} {n : Nat} {T2 us : List Value} {l : List (Nat × Value)} (h : RelL r T2 us) (hn : T2.length = n) (hl : ((l.map (·.1)).map fun k => T2.getD k undef) = l.map (·.2)) : RelL r (mkT n 0 l) us := by
  have := mkT_of (c := 0) (c2 := 0) h hn (l := l) fun p hp => ⟨by
    have : ∀ {l : List (Nat × Value)}, ((l.map (·.1)).map fun k => T2.getD k undef) = l.map (·.2) → p ∈ l → T2.getD p.1 undef = p.2 := by
      intro l
      induction l with
      | nil => intro _ hp; cases hp
      | cons q l ih =>
        intro e hp
        simp only [List.map_cons, List.cons.injEq] at e
        rcases List.mem_cons.1 hp with rfl | hp
        · exact e.1
        · exact ih e.2 hp
    exact this hl hp, fun r u hr => by rw [cut_none]; exact hr⟩
  rwa [cut_none] at this
theorem does_raw (hm : P.follows .mixedOrders = true) {C : Contracts} (hC : Holds P C) {c n : Nat} {code : Code} {T : List Value} {d : Advice} {h h2 : Heap} {l : List (Nat × Value)} {e : SExit} {len c2 : Nat} {L : List VC}
    (e0 : rawOut (l.map (·.1)) (exF P C n (.code code T) d (stOf c h)) = some (e, l.map (·.2), len, c2, h2, L)) (hV : VCs L) : Does P c h c2 h2 (.code code T) (.out e (mkT len 0 l)) := by
  match e1 : exF P C n (.code code T) d (stOf c h), e0 with
  | some (.out e' T', s'), e0 =>
    simp only [rawOut, Option.some.injEq, Prod.mk.injEq] at e0
    obtain ⟨rfl, h1, rfl, rfl, rfl, rfl⟩ := e0
    have hd := does_of_far hm hC e1 hV
    refine ⟨hd.1, fun r ow w hs hf a ha hx => wp_mono (hd.2 r ow w hs hf a ha hx) ?_⟩
    intro e2 a2 w2 ⟨q1, q2, r3, o3, q3, q4⟩
    exact ⟨q1, q2, r3, o3, q3, mkT_raw q4 rfl h1⟩
/-- A function's call, by its body: it ends by return, the result in a temporary. -/
theorem does_call {f : FuncId} {fn : Func} {body : Code} {t : Nat} (hf : P.funcs[f]? = some fn) (hb : fn.body = some body) (hr : fn.results = #[.tmp t]) {c0 c1 : Nat} {h0 h1 : Heap} {args T2 : List Value} {v : Value}
    (hd : Does P c0 h0 c1 h1 (.code body (args ++ List.replicate (fn.ntmps - args.length) undef)) (.out .ret T2)) (hv : T2.getD t undef = v) : Does P c0 h0 c1 h1 (.call f args) (.val v) := by
  refine ⟨hd.1, fun r ow w hs hfr us hus => ?_⟩
  have hwp := hd.2 r ow w hs hfr { tmps := us ++ Array.replicate (fn.ntmps - us.size) undef, defers := [] } (fit_rel hus) rfl
  refine calls_of_wp hf hb (wp_mono hwp ?_)
  intro e' a' w' ⟨hex, hd', r', ow', hp, ha'⟩
  cases e' <;> simp only [exitRel] at hex
  have hx : resX P T2 fn.results.toList [] (stOf c1 h1) = some ([T2.getD t undef], stOf c1 h1) := by rw [hr]; rfl
  obtain ⟨u, g1, g2⟩ := (results_snd hx).2 vcs_nil r' ow' w' a'.tmps hp.sat ha'
  rw [hv] at g2
  exact ⟨hd', u, g1, r', ow', u, rfl, hp, g2⟩
/-- A contract out of what a call does, from nothing. -/
theorem gives_of_does {f : FuncId} {args : List Value} {v : Value} {c1 : Nat} {h1 : Heap} (hd : Does P 0 [] c1 h1 (.call f args) (.val v)) (ha : eachL (bare 9) args = true) (hv : bare 9 v = true) : Gives P f args v := by
  intro r us w hu
  have hus : us.toList = args := eachL_eq (bare_eq 9) ha hu
  have hu' : RelL nil args us.toList := by rw [hus]; exact eachL_rel (bare_rel 9) ha
  exact Calls.mono (hd.2 nil noOne w (sat_nil w) (fun n _ _ => ⟨rfl, rfl⟩) us hu') fun e w' ⟨r', ow', u, he, hp, hr⟩ => ⟨u, he, by rw [bare_eq 9 v u hv hr]; exact bare_rel 9 v hv, hp.frame.old⟩
end Go.Sx

namespace Go.Sx
variable {P : Program}

def keysOf (h : Heap) : List Nat := h.map (·.1)
theorem Heap.get_mem {n : Nat} {x : Chunk} : ∀ {h : Heap}, h.get n = some x → (n, x) ∈ h
  | [], e => by cases e
  | (m, c) :: h, e => by
    simp only [Heap.get, nbeq] at e
    by_cases e2 : m = n
    · subst e2; simp only [decide_true, if_true, Option.some.injEq] at e; subst e; exact List.mem_cons_self
    · simp only [e2, decide_false, Bool.false_eq_true, if_false] at e; exact List.mem_cons_of_mem _ (Heap.get_mem e)
/-- Each of a heap's pieces lies in another heap, too. -/
def Within (h H : Heap) : Prop := ∀ p ∈ h, H.get p.1 = some p.2
theorem within_nil {H : Heap} : Within [] H := fun _ h => by cases h
theorem within_cons {n : Nat} {x : Chunk} {h H : Heap} (a : H.get n = some x) (b : Within h H) : Within ((n, x) :: h) H := fun p hp => by
  rcases List.mem_cons.1 hp with rfl | q
  · exact a
  · exact b p q
/-- What lies there behind a piece: what the piece left, or what it did not touch. -/
def Behind (c : Nat) (keep : List Nat) (H h1 H' : Heap) : Prop := ∀ p ∈ H', h1.get p.1 = some p.2 ∨ (hasN p.1 keep = false ∧ p.1 < c ∧ H.get p.1 = some p.2)
theorem behind_nil {c : Nat} {keep : List Nat} {H h1 : Heap} : Behind c keep H h1 [] := fun _ h => by cases h
theorem behind_new {c n : Nat} {keep : List Nat} {H h1 H' : Heap} {x : Chunk} (a : h1.get n = some x) (b : Behind c keep H h1 H') : Behind c keep H h1 ((n, x) :: H') := fun p hp => by
  rcases List.mem_cons.1 hp with rfl | q
  · exact .inl a
  · exact b p q
theorem behind_old {c n : Nat} {keep : List Nat} {H h1 H' : Heap} {x : Chunk} (a : (!hasN n keep && Nat.blt n c) = true) (a' : H.get n = some x) (b : Behind c keep H h1 H') : Behind c keep H h1 ((n, x) :: H') := fun p hp => by
  rcases List.mem_cons.1 hp with rfl | q
  · rw [Bool.and_eq_true] at a
    exact .inr ⟨by simpa using a.1, Nat.le_of_ble_eq_true a.2, a'⟩
  · exact b p q
theorem does_on {c c1 : Nat} {h h1 H H' : Heap} {code : Code} {T T' : List Value} {e : SExit} (hd : Does P c h c1 h1 (.code code T) (.out e T')) (hw : Within h H) (hn : namesIn (keysOf h) c c1 h1 = true) (hb : namesBelow c (H.without (keysOf h)) = true)
    (hk : Behind c (keysOf h) H h1 H') : Does P c H c1 H' (.code code T) (.out e T') := by
  refine ⟨hd.1, fun r ow w hs hf a ha hx => ?_⟩
  have hp := hs.part (keysOf h)
  have hs' : Sat P r (part (keysOf h) ow) h w := ⟨fun n x hg => by
    have hm := Heap.get_mem hg
    have hH := hw _ hm
    refine hp.chunk n x ?_
    rw [Heap.get_only, if_pos (show n ∈ keysOf h from List.mem_map.2 ⟨(n, x), hm, rfl⟩)]
    exact hH, hp.bound, hp.known⟩
  refine wp_mono (hd.2 r (part (keysOf h) ow) w hs' hf a ha hx) ?_
  intro e' a' w' ⟨q1, q2, r3, o3, q3, q4⟩
  have q5 := Post.join hs hf hn hb ⟨q3.le, q3.sat, q3.frame, q3.new, q3.mono, q3.own⟩
  refine ⟨q1, q2, r3, _, ⟨q5.le, ⟨fun n x hg => q5.sat.chunk n x ?_, q5.sat.bound, q5.sat.known⟩, q5.frame, q5.new, q5.mono, q5.own⟩, q4⟩
  have hm := Heap.get_mem (show Heap.get H' n = some x from hg)
  show Heap.get (h1 ++ H.without (keysOf h)) n = some x
  rw [Heap.get_append]
  rcases hk _ hm with g | ⟨g1, g2, g3⟩
  · rw [g]
  · have hno : h1.get n = none := by
      cases e2 : h1.get n with
      | none => rfl
      | some y =>
        rcases namesIn_get hn e2 with q | q
        · have := (hasN_mem (n := n) (l := keysOf h)).2 q
          rw [this] at g1; cases g1
        · have : c ≤ n := q.1
          omega
    rw [hno]
    simp only
    rw [Heap.get_without, if_neg (fun q => by have := (hasN_mem (n := n) (l := keysOf h)).2 q; rw [this] at g1; cases g1)]
    exact g3
/-- A nil slice is put into a bag. -/
theorem post_nilbag {r : Env} {ow : Nat → Option Nat} {w : World} {c n p k m : Nat} {H0 H : Heap} {l : List Value} {t e : TypeId} (hs : Sat P r ow H0 w) (hf : Fresh r c (c + 1)) (hg : H0.get n = some (.cells l t)) (hp : l[p]? = some (.slice none 0 k))
    (hH : ∀ q ∈ H, q = (c, .bag e m) ∨ q = (n, .cells (l.set p (.chan (some c))) t) ∨ H0.get q.1 = some q.2) :
    Post P r ow w (stOf c H0) ⟨r.blk, r.cap, fun i => if i = c then some (.slice none 0 0) else r.val i⟩ ow w (stOf (c + 1) H) := by
  have hfr := hf c (Nat.le_refl _) (Nat.lt_succ_self _)
  have hle : r.Le ⟨r.blk, r.cap, fun i => if i = c then some (.slice none 0 0) else r.val i⟩ := ⟨fun _ _ h => h, fun _ _ _ => rfl, fun i v hi => by
    have : i ≠ c := fun e => by subst e; rw [hfr.2] at hi; cases hi
    simp only [this, if_false]; exact hi⟩
  refine ⟨hle, ⟨fun i x hi => ?_, hs.bound, fun b i hb => hle.known (hs.known b i hb)⟩, Frame.refl _ _, ⟨fun i hi => .inl hi, fun i hi => ?_⟩, Nat.le_succ _, fun b i hb => .inl ⟨b, hb⟩⟩
  · rcases hH _ (Heap.get_mem hi) with q | q | q
    · cases q
      exact ⟨none, 0, 0, by simp, Nat.zero_le _, .inl ⟨rfl, rfl, rfl⟩⟩
    · cases q
      obtain ⟨b, cs, h1, h2, h3, h4, h5, h6⟩ := Chunk.sat_mono hle (hs.chunk n _ hg)
      refine ⟨b, cs, h1, h2, h3, ?_, by rw [List.length_set]; exact h5, h6⟩
      rw [List.length_set]
      obtain ⟨u, e1, e2⟩ := h4.get p _ hp
      cases e2
      have := h4.set (x := .chan (some c)) (y := .slice none 0 0) (.opq (by simp)) p
      have e3 : (cs.toList.take l.length).set p (.slice none 0 0) = cs.toList.take l.length := by
        have hlt := (List.getElem?_eq_some_iff.1 e1).1
        have hv := (List.getElem?_eq_some_iff.1 e1).2
        rw [← hv]
        exact List.set_getElem_self hlt
      rw [e3] at this
      exact this
    · exact Chunk.sat_mono hle (hs.chunk i x q)
  · by_cases e3 : i = c
    · subst e3; exact .inr ⟨Nat.le_refl _, Nat.lt_succ_self _⟩
    · simp only [e3, if_false] at hi; exact .inl hi
theorem mid_bag {c0 cm c1 n p k m : Nat} {h0 H0 H h1 : Heap} {l : List Value} {t e : TypeId} {code : Code} {T Tf : List Value} {x : SExit} (hc : cm + 1 ≤ c1) (hg : H0.get n = some (.cells l t)) (hp : l[p]? = some (.slice none 0 k))
    (hH : ∀ q ∈ H, q = (cm, .bag e m) ∨ q = (n, .cells (l.set p (.chan (some cm))) t) ∨ H0.get q.1 = some q.2) (hm : Mid P c0 h0 (cm + 1) H c1 h1 code T x Tf) : Mid P c0 h0 cm H0 c1 h1 code T x Tf := by
  intro r0 ow0 w0 r ow w hf hpo hfr a ha hd
  have hq := post_nilbag (P := P) hpo.sat (hfr.sub (Nat.le_refl _) hc) hg hp hH
  exact hm r0 ow0 w0 _ ow w hf (hpo.trans hq) (fun i h1 h2 => ⟨(hfr i (by omega) h2).1, by
    have : i ≠ cm := by omega
    simp only [this, if_false]; exact (hfr i (by omega) h2).2⟩) a (ha.mono hq.le) hd
end Go.Sx

namespace Go.Sx
variable {P : Program}
/-- What such a call comes to, if the first text is not longer than any machine has room for. -/
def strX (a : ByteArray) (v : Int) : X ARes := X.bind (chk (Nat.ble a.data.toList.length 4294967295)) fun _ => X.pure (.val (.int .i64 v))
theorem strX_snd {f : FuncId} {a b : ByteArray} {v : Int} (hg : (a.data.toList.length : Int) < 4294967296 → Gives P f [.string a, .string b] (.int .i64 v)) : TaskSnd P (strX a v) (.call f [.string a, .string b]) := by
  intro d s res s' h
  unfold strX at h
  obtain ⟨_, s1, h1, h2⟩ := bind_some h
  obtain ⟨cm, e⟩ := calm_chk h1
  obtain ⟨rfl, rfl⟩ := pure_some h2
  refine ⟨cm.V, fun hV r ow w hs _ us hu => ?_⟩
  exact Calls.mono (hg (by have := Nat.le_of_ble_eq_true (e hV); omega) r us w hu) fun e' w' ⟨u, he, hv, ho⟩ => ⟨r, ow, u, he, Post.of_st rfl cm.c cm.h (Post.old hs ho), hv⟩
def addS (C : Contracts) (f : FuncId) (g : ByteArray → ByteArray → Int) : Contracts := fun t => match t with
  | .call k xs => match Nat.beq k f with
    | true => (match xs with
      | [.string a, .string b] => some (strX a (g a b))
      | _ => none)
    | false => C (.call k xs)
  | t => C t
theorem Holds.addS {C : Contracts} (h : Holds P C) {f : FuncId} {g : ByteArray → ByteArray → Int} (hg : ∀ a b : ByteArray, (a.data.toList.length : Int) < 4294967296 → Gives P f [.string a, .string b] (.int .i64 (g a b))) : Holds P (addS C f g) := by
  have key : ∀ t x, Sx.addS C f g t = some x → C t = some x ∨ ∃ a b, t = .call f [.string a, .string b] ∧ x = strX a (g a b) := by
    intro t x e
    unfold Sx.addS at e
    split at e
    · rename_i k xs
      cases hb : Nat.beq k f with
      | true =>
        simp only [hb] at e
        obtain rfl := Nat.eq_of_beq_eq_true hb
        split at e
        · cases e
          exact .inr ⟨_, _, rfl, rfl⟩
        · cases e
      | false =>
        simp only [hb] at e
        exact .inl e
    · exact .inl e
  refine ⟨fun t x e => ?_, fun t x e => ?_⟩
  · rcases key t x e with q | ⟨a, b, rfl, rfl⟩
    · exact h.loc t x q
    · exact Local.bind (Local.chk _) fun _ => Local.pure _
  · rcases key t x e with q | ⟨a, b, rfl, rfl⟩
    · exact h.snd t x q
    · exact strX_snd (hg a b)
end Go.Sx
