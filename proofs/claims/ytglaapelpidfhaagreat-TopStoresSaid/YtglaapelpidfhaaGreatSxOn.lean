/- Symbolic executor, part 27: what a piece does to a part of the heap it does to the whole. No condition. -/
import Derived.Test.YtglaapelpidfhaaGreatSxSeq
namespace Go.Sx
variable {P : Program}

def keysOf (h : Heap) : List Nat := h.map (·.1)
theorem Heap.get_mem {n : Nat} {x : Chunk} : ∀ {h : Heap}, h.get n = some x → (n, x) ∈ h
  | [], e => by cases e
  | (m, c) :: h, e => by
    simp only [Heap.get, nbeq] at e
    by_cases e2 : m = n
    · subst e2; simp only [decide_true, if_true, Option.some.injEq] at e; subst e; exact List.mem_cons_self
    · simp only [e2, decide_false, Bool.false_eq_true, if_false] at e; exact List.mem_cons_of_mem _ (Heap.get_mem e)
/-- Each of a heap's pieces lies in another heap, too. -/
def Within (h H : Heap) : Prop := ∀ p ∈ h, H.get p.1 = some p.2
theorem within_nil {H : Heap} : Within [] H := fun _ h => by cases h
theorem within_cons {n : Nat} {x : Chunk} {h H : Heap} (a : H.get n = some x) (b : Within h H) : Within ((n, x) :: h) H := fun p hp => by
  rcases List.mem_cons.1 hp with rfl | q
  · exact a
  · exact b p q
/-- What lies there behind a piece: what the piece left, or what it did not touch. -/
def Behind (c : Nat) (keep : List Nat) (H h1 H' : Heap) : Prop := ∀ p ∈ H', h1.get p.1 = some p.2 ∨ (hasN p.1 keep = false ∧ p.1 < c ∧ H.get p.1 = some p.2)
theorem behind_nil {c : Nat} {keep : List Nat} {H h1 : Heap} : Behind c keep H h1 [] := fun _ h => by cases h
theorem behind_new {c n : Nat} {keep : List Nat} {H h1 H' : Heap} {x : Chunk} (a : h1.get n = some x) (b : Behind c keep H h1 H') : Behind c keep H h1 ((n, x) :: H') := fun p hp => by
  rcases List.mem_cons.1 hp with rfl | q
  · exact .inl a
  · exact b p q
theorem behind_old {c n : Nat} {keep : List Nat} {H h1 H' : Heap} {x : Chunk} (a : (!hasN n keep && Nat.blt n c) = true) (a' : H.get n = some x) (b : Behind c keep H h1 H') : Behind c keep H h1 ((n, x) :: H') := fun p hp => by
  rcases List.mem_cons.1 hp with rfl | q
  · rw [Bool.and_eq_true] at a
    exact .inr ⟨by simpa using a.1, Nat.le_of_ble_eq_true a.2, a'⟩
  · exact b p q
theorem does_on {c c1 : Nat} {h h1 H H' : Heap} {code : Code} {T T' : List Value} {e : SExit} (hd : Does P c h c1 h1 (.code code T) (.out e T')) (hw : Within h H) (hn : namesIn (keysOf h) c c1 h1 = true) (hb : namesBelow c (H.without (keysOf h)) = true)
    (hk : Behind c (keysOf h) H h1 H') : Does P c H c1 H' (.code code T) (.out e T') := by
  refine ⟨hd.1, fun r ow w hs hf a ha hx => ?_⟩
  have hp := hs.part (keysOf h)
  have hs' : Sat P r (part (keysOf h) ow) h w := ⟨fun n x hg => by
    have hm := Heap.get_mem hg
    have hH := hw _ hm
    refine hp.chunk n x ?_
    rw [Heap.get_only, if_pos (show n ∈ keysOf h from List.mem_map.2 ⟨(n, x), hm, rfl⟩)]
    exact hH, hp.bound, hp.known⟩
  refine wp_mono (hd.2 r (part (keysOf h) ow) w hs' hf a ha hx) ?_
  intro e' a' w' ⟨q1, q2, r3, o3, q3, q4⟩
  have q5 := Post.join hs hf hn hb ⟨q3.le, q3.sat, q3.frame, q3.new, q3.mono, q3.own⟩
  refine ⟨q1, q2, r3, _, ⟨q5.le, ⟨fun n x hg => q5.sat.chunk n x ?_, q5.sat.bound, q5.sat.known⟩, q5.frame, q5.new, q5.mono, q5.own⟩, q4⟩
  have hm := Heap.get_mem (show Heap.get H' n = some x from hg)
  show Heap.get (h1 ++ H.without (keysOf h)) n = some x
  rw [Heap.get_append]
  rcases hk _ hm with g | ⟨g1, g2, g3⟩
  · rw [g]
  · have hno : h1.get n = none := by
      cases e2 : h1.get n with
      | none => rfl
      | some y =>
        rcases namesIn_get hn e2 with q | q
        · have := (hasN_mem (n := n) (l := keysOf h)).2 q
          rw [this] at g1; cases g1
        · have : c ≤ n := q.1
          omega
    rw [hno]
    simp only
    rw [Heap.get_without, if_neg (fun q => by have := (hasN_mem (n := n) (l := keysOf h)).2 q; rw [this] at g1; cases g1)]
    exact g3
/-- A nil slice is put into a bag. -/
theorem post_nilbag {r : Env} {ow : Nat → Option Nat} {w : World} {c n p k m : Nat} {H0 H : Heap} {l : List Value} {t e : TypeId} (hs : Sat P r ow H0 w) (hf : Fresh r c (c + 1)) (hg : H0.get n = some (.cells l t)) (hp : l[p]? = some (.slice none 0 k))
    (hH : ∀ q ∈ H, q = (c, .bag e m) ∨ q = (n, .cells (l.set p (.chan (some c))) t) ∨ H0.get q.1 = some q.2) :
    Post P r ow w (stOf c H0) ⟨r.blk, r.cap, fun i => if i = c then some (.slice none 0 0) else r.val i⟩ ow w (stOf (c + 1) H) := by
  have hfr := hf c (Nat.le_refl _) (Nat.lt_succ_self _)
  have hle : r.Le ⟨r.blk, r.cap, fun i => if i = c then some (.slice none 0 0) else r.val i⟩ := ⟨fun _ _ h => h, fun _ _ _ => rfl, fun i v hi => by
    have : i ≠ c := fun e => by subst e; rw [hfr.2] at hi; cases hi
    simp only [this, if_false]; exact hi⟩
  refine ⟨hle, ⟨fun i x hi => ?_, hs.bound, fun b i hb => hle.known (hs.known b i hb)⟩, Frame.refl _ _, ⟨fun i hi => .inl hi, fun i hi => ?_⟩, Nat.le_succ _, fun b i hb => .inl ⟨b, hb⟩⟩
  · rcases hH _ (Heap.get_mem hi) with q | q | q
    · cases q
      exact ⟨none, 0, 0, by simp, Nat.zero_le _, .inl ⟨rfl, rfl, rfl⟩⟩
    · cases q
      obtain ⟨b, cs, h1, h2, h3, h4, h5, h6⟩ := Chunk.sat_mono hle (hs.chunk n _ hg)
      refine ⟨b, cs, h1, h2, h3, ?_, by rw [List.length_set]; exact h5, h6⟩
      rw [List.length_set]
      obtain ⟨u, e1, e2⟩ := h4.get p _ hp
      cases e2
      have := h4.set (x := .chan (some c)) (y := .slice none 0 0) (.opq (by simp)) p
      have e3 : (cs.toList.take l.length).set p (.slice none 0 0) = cs.toList.take l.length := by
        have hlt := (List.getElem?_eq_some_iff.1 e1).1
        have hv := (List.getElem?_eq_some_iff.1 e1).2
        rw [← hv]
        exact List.set_getElem_self hlt
      rw [e3] at this
      exact this
    · exact Chunk.sat_mono hle (hs.chunk i x q)
  · by_cases e3 : i = c
    · subst e3; exact .inr ⟨Nat.le_refl _, Nat.lt_succ_self _⟩
    · simp only [e3, if_false] at hi; exact .inl hi
theorem mid_bag {c0 cm c1 n p k m : Nat} {h0 H0 H h1 : Heap} {l : List Value} {t e : TypeId} {code : Code} {T Tf : List Value} {x : SExit} (hc : cm + 1 ≤ c1) (hg : H0.get n = some (.cells l t)) (hp : l[p]? = some (.slice none 0 k))
    (hH : ∀ q ∈ H, q = (cm, .bag e m) ∨ q = (n, .cells (l.set p (.chan (some cm))) t) ∨ H0.get q.1 = some q.2) (hm : Mid P c0 h0 (cm + 1) H c1 h1 code T x Tf) : Mid P c0 h0 cm H0 c1 h1 code T x Tf := by
  intro r0 ow0 w0 r ow w hf hpo hfr a ha hd
  have hq := post_nilbag (P := P) hpo.sat (hfr.sub (Nat.le_refl _) hc) hg hp hH
  exact hm r0 ow0 w0 _ ow w hf (hpo.trans hq) (fun i h1 h2 => ⟨(hfr i (by omega) h2).1, by
    have : i ≠ cm := by omega
    simp only [this, if_false]; exact (hfr i (by omega) h2).2⟩) a (ha.mono hq.le) hd
end Go.Sx
