/- Symbolic executor, part 33: a nil slice in a temporary is put into a bag; values over old memory out of what a call does. No condition. -/
import Derived.Test.YtkmicbhnfochjaaGreatDoorMSpl

namespace Go.Sx
variable {P : Program}

theorem mkT_get {l : List (Nat × Value)} {x : Value} : ∀ {n k j : Nat}, (mkT n k l)[j]? = some x → x = lookT l (k + j)
  | 0, _, _, h => by simp [mkT] at h
  | n + 1, k, 0, h => by simp only [mkT, List.getElem?_cons_zero, Option.some.injEq] at h; rw [← h]; rfl
  | n + 1, k, j + 1, h => by
    simp only [mkT, List.getElem?_cons_succ] at h
    rw [mkT_get h]
    congr 1
    omega
theorem mkT_len {l : List (Nat × Value)} : ∀ {n k : Nat}, (mkT n k l).length = n
  | 0, _ => rfl
  | n + 1, k => by simp [mkT, mkT_len (n := n)]
theorem post_bagT {r : Env} {ow : Nat → Option Nat} {w : World} {c m : Nat} {H0 H : Heap} {e : TypeId} (hs : Sat P r ow H0 w) (hf : Fresh r c (c + 1)) (hH : ∀ q ∈ H, q = (c, .bag e m) ∨ H0.get q.1 = some q.2) :
    Post P r ow w (stOf c H0) ⟨r.blk, r.cap, fun i => if i = c then some (.slice none 0 0) else r.val i⟩ ow w (stOf (c + 1) H) := by
  have hfr := hf c (Nat.le_refl _) (Nat.lt_succ_self _)
  have hle : r.Le ⟨r.blk, r.cap, fun i => if i = c then some (.slice none 0 0) else r.val i⟩ := ⟨fun _ _ h => h, fun _ _ _ => rfl, fun i v hi => by
    have : i ≠ c := fun e => by subst e; rw [hfr.2] at hi; cases hi
    simp only [this, if_false]; exact hi⟩
  refine ⟨hle, ⟨fun i x hi => ?_, hs.bound, fun b i hb => hle.known (hs.known b i hb)⟩, Frame.refl _ _, ⟨fun i hi => .inl hi, fun i hi => ?_⟩, Nat.le_succ _, fun b i hb => .inl ⟨b, hb⟩⟩
  · rcases hH _ (Heap.get_mem hi) with q | q
    · cases q
      exact ⟨none, 0, 0, by simp, Nat.zero_le _, .inl ⟨rfl, rfl, rfl⟩⟩
    · exact Chunk.sat_mono hle (hs.chunk i x q)
  · by_cases e3 : i = c
    · subst e3; exact .inr ⟨Nat.le_refl _, Nat.lt_succ_self _⟩
    · simp only [e3, if_false] at hi; exact .inl hi
theorem mid_bagT {c0 cm c1 m k n : Nat} {h0 H0 H h1 : Heap} {e : TypeId} {code : Code} {l : List (Nat × Value)} {Tf : List Value} {x : SExit} (hc : cm + 1 ≤ c1)
    (hl : ∀ p ∈ l, lookT ((n, .slice none 0 k) :: l) p.1 = p.2) (hn : ∀ p ∈ l, p.1 ≠ n) {len : Nat}
    (hH : ∀ q ∈ H, q = (cm, .bag e m) ∨ H0.get q.1 = some q.2) (hm : Mid P c0 h0 (cm + 1) H c1 h1 code (mkT len 0 ((n, .chan (some cm)) :: l)) x Tf) : Mid P c0 h0 cm H0 c1 h1 code (mkT len 0 ((n, .slice none 0 k) :: l)) x Tf := by
  intro r0 ow0 w0 r ow w hf hpo hfr a ha hd
  have hq := post_bagT (P := P) hpo.sat (hfr.sub (Nat.le_refl _) hc) hH
  refine hm r0 ow0 w0 _ ow w hf (hpo.trans hq) (fun i h1 h2 => ⟨(hfr i (by omega) h2).1, by
    have : i ≠ cm := by omega
    simp only [this, if_false]; exact (hfr i (by omega) h2).2⟩) a ?_ hd
  have hlen := ha.length
  rw [mkT_len] at hlen
  refine mkT_rel len 0 _ hlen.symm fun j u hu => ?_
  rw [Nat.zero_add]
  obtain ⟨y, hy, hr⟩ := ha.get' j u hu
  have hy' := mkT_get hy
  rw [Nat.zero_add] at hy'
  by_cases ej : n = j
  · subst ej
    simp only [lookT, nbeq, decide_true] at hy' ⊢
    subst hy'
    cases hr
    exact .opq (by simp)
  · simp only [lookT, nbeq, ej, decide_false] at hy' ⊢
    rw [← hy']
    exact hr.mono hq.le
/-- A value over old memory, out of what a call does there; what has a name is not told. -/
theorem givesW_of_does {φ : World → Prop} {f : FuncId} {args : List Value} {v : Value} {c1 : Nat} {h1 : World → Heap} (hd : ∀ w, φ w → Does P 1 (argsHeap w) c1 (h1 w) (.call f args) (.val v)) (h0 : ∀ w, (h1 w).get 0 = some (.args w.heap.size w)) (ha : eachL (bare 9) args = true) :
    GivesW P φ f args (renV (fun _ => none) 9 v) := by
  intro r us w hw hu
  have hus : us.toList = args := eachL_eq (bare_eq 9) ha hu
  have hu' : RelL argsEnv args us.toList := by rw [hus]; exact eachL_rel (bare_rel 9) ha
  exact Calls.mono (args_calls (hd w hw) (h0 w) hu') fun e w' ⟨r', u, he, hr, ho⟩ => ⟨u, he, renV_ok (fun n m h => by cases h) 9 v u hr, ho⟩
end Go.Sx

namespace Go.Sx

abbrev Tab := List VC
def Tab.at : Tab → Nat → VC
  | [], _ => .b true
  | v :: _, 0 => v
  | _ :: t, i + 1 => Tab.at t i
def wayL (t : Tab) : List Nat → List VC
  | [] => []
  | i :: l => t.at i :: wayL t l
def OkAll (t : Tab) (l : List Nat) : Prop := ∀ i, i ∈ l → (t.at i).ok
def subN : List Nat → List Nat → Bool
  | [], _ => true
  | i :: l, u => hasN i u && subN l u
theorem way_ok {t : Tab} {u : List Nat} (h : OkAll t u) : ∀ {l : List Nat}, subN l u = true → VCs (wayL t l)
  | [], _ => vcs_nil
  | i :: l, hs => by
    simp only [subN, Bool.and_eq_true] at hs
    exact vcs_cons (h i (hasN_mem.1 hs.1)) (way_ok h hs.2)
theorem oka_nil {t : Tab} : OkAll t [] := fun _ h => by cases h
theorem oka_cons {t : Tab} {i : Nat} {l : List Nat} (h : (t.at i).ok) (k : OkAll t l) : OkAll t (i :: l) := fun j hj => by
  cases hj with
  | head => exact h
  | tail _ hj => exact k j hj
end Go.Sx
