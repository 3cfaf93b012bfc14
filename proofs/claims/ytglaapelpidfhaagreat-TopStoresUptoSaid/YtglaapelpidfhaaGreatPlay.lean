/- TopStores' argument, opened: limits, lists of acts, turns. No condition. -/
import Derived.Test.YtglaapelpidfhaaGreatRows
import Derived.Test.YtglaapelpidfhaaGreatTopAll
import Derived.WalkKit
import Derived.ProofKit
import Derived.OpenShut
import Derived.ShutString
import Derived.ChangeOld
import Derived.Below
import Derived.Deep.Slices
namespace Go.Proofs.YtglaapelpidfhaaGreat
open Go Go.ChangeShapes Go.WideShapes Go.ChangeAt Go.RowKit
open Go.Sx (argsHeap ArgCells lit litOk args_cells args_calls)

theorem Old.below {w w' : World} (h : Sx.Old w w') : Below w.heap.size w w' := ⟨h.os, h.tape, h.output, h.size, h.keep⟩
theorem bulk_one {H : Type} (d : DataW H) : 1 ≤ Rows.uptoBulk d := by
  cases d with
  | lit l => cases l <;> simp [Rows.uptoBulk]
  | _ => simp [Rows.uptoBulk]
theorem bulk_part {H : Type} {d : DataW H} {l : List (DataW H)} (h : d ∈ l) : Rows.uptoBulk d ≤ Rows.uptoBulkAll l := by
  induction l with
  | nil => cases h
  | cons x r ih =>
    simp only [Rows.uptoBulkAll]
    rcases List.mem_cons.1 h with e | e
    · subst e; omega
    · have := ih e; omega
theorem bulk_length {H : Type} (l : List (DataW H)) : l.length ≤ Rows.uptoBulkAll l := by
  induction l with
  | nil => simp [Rows.uptoBulkAll]
  | cons x r ih => have := bulk_one x; simp only [Rows.uptoBulkAll, List.length_cons]; omega
theorem bulk_slice {H : Type} (a b : List (DataW H)) : a.length ≤ Rows.uptoBulk (.slice a b) ∧ Rows.uptoBulkAll a ≤ Rows.uptoBulk (.slice a b) := by
  have := bulk_length a
  simp only [Rows.uptoBulk]
  omega
theorem bulk_agg {H : Type} (l : List (DataW H)) : Rows.uptoBulkAll l ≤ Rows.uptoBulk (.agg l) := by
  simp only [Rows.uptoBulk]
  omega
theorem spot_of_cell {w : World} {a : Addr} {v : Value} (h : w.cell? a = some v) : a.spot = none := by
  unfold World.cell? at h
  split at h
  · split at h
    · cases h
    · rename_i q; simpa using q
  · cases h
theorem block_of_cell {w : World} {a : Addr} {v : Value} (h : w.cell? a = some v) : a.block < w.heap.size := by
  unfold World.cell? at h
  cases e : w.heap[a.block]? with
  | none => simp [e] at h
  | some o => exact (Array.getElem?_eq_some_iff.1 e).1

section
variable {H : Type} {enc : TypeId × Value → H} {P : Program} {w : World} {base : Nat} {spare : Nat → Bool} {held : Bool}
theorem field_at {fs : Array Field} {cs : List Value} {xs : List (DataW H × List MemPlace)} {n : Nat} (hf : ∀ (i : Nat) (f : Field), fs[i]? = some f → DataW.trod enc P w base spare held n f.type ((cs.drop f.offset).take (P.cellsOf f.type)) = xs[i]?)
    (hlen : xs.length = fs.size) {i : Nat} {f : Field} (hi : fs[i]? = some f) : ∃ y, y ∈ xs ∧ DataW.trod enc P w base spare held n f.type ((cs.drop f.offset).take (P.cellsOf f.type)) = some y := by
  have hlt : i < xs.length := by rw [hlen]; exact (Array.getElem?_eq_some_iff.1 hi).1
  exact ⟨xs[i], List.getElem_mem hlt, by rw [hf i f hi]; simp⟩
theorem open_lims {t ti : TypeId} {n0 g0 q0 n1 g1 q1 n2 g2 q2 n3 g3 q3 n4 g4 q4 n5 g5 q5 : String} {e0 e1 e2 e3 e4 e5 : Bool} {o0 o1 o2 o3 o4 o5 : Nat}
    (hs : P.underlying t = some (.struct #[⟨n0, ti, 0, e0, g0, q0, o0⟩, ⟨n1, ti, 1, e1, g1, q1, o1⟩, ⟨n2, ti, 2, e2, g2, q2, o2⟩, ⟨n3, ti, 3, e3, g3, q3, o3⟩, ⟨n4, ti, 4, e4, g4, q4, o4⟩, ⟨n5, ti, 5, e5, g5, q5, o5⟩])) (hi : P.underlying ti = some (.int .i64)) (h6 : P.cellsOf t = 6) (h1 : P.cellsOf ti = 1)
    {n : Nat} {cs : List Value} {x : DataW H × List MemPlace} (h : DataW.trod enc P w base spare held n t cs = some x) :
    ∃ a b c d e g : Int, cs = [.int .i64 a, .int .i64 b, .int .i64 c, .int .i64 d, .int .i64 e, .int .i64 g] := by
  obtain ⟨xs, n, _, _, hl, hlen, hx⟩ := DataW.trod_struct hs h
  rw [h6] at hl
  match cs, hl with
  | [c0, c1, c2, c3, c4, c5], _ =>
    obtain ⟨y0, _, z0⟩ := field_at hx hlen (i := 0) (f := ⟨n0, ti, 0, e0, g0, q0, o0⟩) rfl
    obtain ⟨y1, _, z1⟩ := field_at hx hlen (i := 1) (f := ⟨n1, ti, 1, e1, g1, q1, o1⟩) rfl
    obtain ⟨y2, _, z2⟩ := field_at hx hlen (i := 2) (f := ⟨n2, ti, 2, e2, g2, q2, o2⟩) rfl
    obtain ⟨y3, _, z3⟩ := field_at hx hlen (i := 3) (f := ⟨n3, ti, 3, e3, g3, q3, o3⟩) rfl
    obtain ⟨y4, _, z4⟩ := field_at hx hlen (i := 4) (f := ⟨n4, ti, 4, e4, g4, q4, o4⟩) rfl
    obtain ⟨y5, _, z5⟩ := field_at hx hlen (i := 5) (f := ⟨n5, ti, 5, e5, g5, q5, o5⟩) rfl
    obtain ⟨a, xz0, _⟩ := DataW.trod_int hi z0
    obtain ⟨b, xz1, _⟩ := DataW.trod_int hi z1
    obtain ⟨c, xz2, _⟩ := DataW.trod_int hi z2
    obtain ⟨d, xz3, _⟩ := DataW.trod_int hi z3
    obtain ⟨e, xz4, _⟩ := DataW.trod_int hi z4
    obtain ⟨g, xz5, _⟩ := DataW.trod_int hi z5
    simp [h1] at xz0 xz1 xz2 xz3 xz4 xz5
    subst xz0 xz1 xz2 xz3 xz4 xz5
    exact ⟨a, b, c, d, e, g, rfl⟩
/-- An act. -/
theorem open_act {ta tp ti tb ts : TypeId} {n0 g0 q0 n1 g1 q1 n2 g2 q2 n3 g3 q3 n4 g4 q4 n5 g5 q5 n6 g6 q6 n7 g7 q7 n8 g8 q8 n9 g9 q9 : String} {e0 e1 e2 e3 e4 e5 e6 e7 e8 e9 : Bool} {o0 o1 o2 o3 o4 o5 o6 o7 o8 o9 : Nat}
    (hs : P.underlying ta = some (.struct #[⟨n0, ti, 0, e0, g0, q0, o0⟩, ⟨n1, tb, 1, e1, g1, q1, o1⟩, ⟨n2, ts, 2, e2, g2, q2, o2⟩, ⟨n3, ts, 3, e3, g3, q3, o3⟩, ⟨n4, tp, 4, e4, g4, q4, o4⟩, ⟨n5, ti, 7, e5, g5, q5, o5⟩, ⟨n6, tb, 8, e6, g6, q6, o6⟩]))
    (hp : P.underlying tp = some (.struct #[⟨n7, ts, 0, e7, g7, q7, o7⟩, ⟨n8, ts, 1, e8, g8, q8, o8⟩, ⟨n9, tb, 2, e9, g9, q9, o9⟩])) (hi : P.underlying ti = some (.int .i64)) (hb : P.underlying tb = some .bool) (hS : P.underlying ts = some .string)
    (h9 : P.cellsOf ta = 9) (h1 : P.cellsOf ti = 1) (h2 : P.cellsOf tb = 1) (h3 : P.cellsOf ts = 1) (h4 : P.cellsOf tp = 3)
    {n : Nat} {cs : List Value} {x : DataW H × List MemPlace} (h : DataW.trod enc P w base spare held n ta cs = some x) :
    ∃ (kind : Int) (reads : Bool) (key value low high : ByteArray) (unb : Bool) (limit : Int) (rev : Bool), cs = act kind reads key value low high unb limit rev := by
  obtain ⟨xs, m1, _, _, hl, hlen, hx⟩ := DataW.trod_struct hs h
  rw [h9] at hl
  match cs, hl with
  | [c0, c1, c2, c3, c4, c5, c6, c7, c8], _ =>
    obtain ⟨y0, _, z0⟩ := field_at hx hlen (i := 0) (f := ⟨n0, ti, 0, e0, g0, q0, o0⟩) rfl
    obtain ⟨y1, _, z1⟩ := field_at hx hlen (i := 1) (f := ⟨n1, tb, 1, e1, g1, q1, o1⟩) rfl
    obtain ⟨y2, _, z2⟩ := field_at hx hlen (i := 2) (f := ⟨n2, ts, 2, e2, g2, q2, o2⟩) rfl
    obtain ⟨y3, _, z3⟩ := field_at hx hlen (i := 3) (f := ⟨n3, ts, 3, e3, g3, q3, o3⟩) rfl
    obtain ⟨y4, _, z4⟩ := field_at hx hlen (i := 4) (f := ⟨n4, tp, 4, e4, g4, q4, o4⟩) rfl
    obtain ⟨y5, _, z5⟩ := field_at hx hlen (i := 5) (f := ⟨n5, ti, 7, e5, g5, q5, o5⟩) rfl
    obtain ⟨y6, _, z6⟩ := field_at hx hlen (i := 6) (f := ⟨n6, tb, 8, e6, g6, q6, o6⟩) rfl
    obtain ⟨kind, xz0, _⟩ := DataW.trod_int hi z0
    obtain ⟨reads, xz1, _⟩ := DataW.trod_bool hb z1
    obtain ⟨key, xz2, _⟩ := DataW.trod_string hS z2
    obtain ⟨value, xz3, _⟩ := DataW.trod_string hS z3
    obtain ⟨limit, xz5, _⟩ := DataW.trod_int hi z5
    obtain ⟨rev, xz6, _⟩ := DataW.trod_bool hb z6
    obtain ⟨zs, m2, _, _, _, zlen, hz⟩ := DataW.trod_struct hp z4
    obtain ⟨u0, _, f0⟩ := field_at hz zlen (i := 0) (f := ⟨n7, ts, 0, e7, g7, q7, o7⟩) rfl
    obtain ⟨u1, _, f1⟩ := field_at hz zlen (i := 1) (f := ⟨n8, ts, 1, e8, g8, q8, o8⟩) rfl
    obtain ⟨u2, _, f2⟩ := field_at hz zlen (i := 2) (f := ⟨n9, tb, 2, e9, g9, q9, o9⟩) rfl
    obtain ⟨low, xf0, _⟩ := DataW.trod_string hS f0
    obtain ⟨high, xf1, _⟩ := DataW.trod_string hS f1
    obtain ⟨unb, xf2, _⟩ := DataW.trod_bool hb f2
    simp [h1, h2, h3, h4] at xz0 xz1 xz2 xz3 xz5 xz6 xf0 xf1 xf2
    subst xz0 xz1 xz2 xz3 xz5 xz6 xf0 xf1 xf2
    exact ⟨kind, reads, key, value, low, high, unb, limit, rev, rfl⟩
/-- A slice's place is no one's spot, if it has an element. -/
theorem spot_of_elem {a : Addr} {len : Nat} {k : Nat} (hk : 0 < k) (h : 0 < len → ∃ cs', w.cells? base (a.add (0 * k)) k = some cs') : a.spot = none ∨ len = 0 := by
  rcases Nat.eq_zero_or_pos len with e | e
  · exact .inr e
  · left
    obtain ⟨cs', h1⟩ := h e
    obtain ⟨_, h2, h3⟩ := World.cells?_some h1
    have h4 := h3 0 hk
    rw [List.getElem?_eq_getElem (by omega)] at h4
    have : ((a.add (0 * k)).add 0) = a := by simp [Addr.add]
    rw [this] at h4
    exact spot_of_cell h4
theorem add_at {a : Addr} (h : a.spot = none) (i j : Nat) : (a.add i).add j = ⟨a.block, a.off + i + j, none⟩ := by
  obtain ⟨b, off, sp⟩ := a
  simp only at h
  subst h
  unfold Addr.add
  split <;> split <;> simp_all
/-- A list of acts. -/
theorem open_list {tl ta tp ti tb ts : TypeId} {n0 g0 q0 n1 g1 q1 n2 g2 q2 n3 g3 q3 n4 g4 q4 n5 g5 q5 n6 g6 q6 n7 g7 q7 n8 g8 q8 n9 g9 q9 : String} {e0 e1 e2 e3 e4 e5 e6 e7 e8 e9 : Bool} {o0 o1 o2 o3 o4 o5 o6 o7 o8 o9 : Nat}
    (hl : P.underlying tl = some (.slice ta)) (hs : P.underlying ta = some (.struct #[⟨n0, ti, 0, e0, g0, q0, o0⟩, ⟨n1, tb, 1, e1, g1, q1, o1⟩, ⟨n2, ts, 2, e2, g2, q2, o2⟩, ⟨n3, ts, 3, e3, g3, q3, o3⟩, ⟨n4, tp, 4, e4, g4, q4, o4⟩, ⟨n5, ti, 7, e5, g5, q5, o5⟩, ⟨n6, tb, 8, e6, g6, q6, o6⟩]))
    (hp : P.underlying tp = some (.struct #[⟨n7, ts, 0, e7, g7, q7, o7⟩, ⟨n8, ts, 1, e8, g8, q8, o8⟩, ⟨n9, tb, 2, e9, g9, q9, o9⟩])) (hi : P.underlying ti = some (.int .i64)) (hb : P.underlying tb = some .bool) (hS : P.underlying ts = some .string)
    (h9 : P.cellsOf ta = 9) (h1 : P.cellsOf ti = 1) (h2 : P.cellsOf tb = 1) (h3 : P.cellsOf ts = 1) (h4 : P.cellsOf tp = 3)
    {n B : Nat} {cs : List Value} {x : DataW H × List MemPlace} (h : DataW.trod enc P w base spare held n tl cs = some x) (hB : Rows.uptoBulk x.1 ≤ B) :
    ∃ v N, cs = [v] ∧ litOk v ∧ N ≤ B ∧ ActList w (lit v) N := by
  rcases Deep.open_slice hl h with ⟨e, _⟩ | ⟨a, len, cap, m, n, D, Pl, e, _, hlc, _, hm, hx, hel⟩
  · exact ⟨_, 0, e, trivial, Nat.zero_le _, .nil⟩
  · have him : ∀ i, i < len → i < m := fun i hi' => by rw [hm]; split <;> omega
    rw [h9] at hel
    have hsp : a.spot = none ∨ len = 0 := spot_of_elem (k := 9) (by decide) fun hp0 => by
      obtain ⟨cs', k1, _⟩ := hel 0 (him 0 hp0)
      exact ⟨cs', k1⟩
    refine ⟨_, len, e, ⟨hsp, hlc⟩, ?_, ?_⟩
    · subst hx
      dsimp only at hB
      have := (bulk_slice ((List.range len).map D) ((List.range (m - len)).map fun j => D (len + j))).1
      simp only [List.length_map, List.length_range] at this
      omega
    · refine ActList.some (blk := a.block) (off := a.off) fun i hi' => ?_
      have hsp' : a.spot = none := hsp.resolve_right (by omega)
      obtain ⟨cs', k1, k2⟩ := hel i (him i hi')
      obtain ⟨kind, reads, key, value, low, high, unb, limit, rev, rfl⟩ := open_act hs hp hi hb hS h9 h1 h2 h3 h4 k2
      refine ⟨kind, reads, key, value, low, high, unb, limit, rev, ?_⟩
      obtain ⟨_, _, hc⟩ := World.cells?_some k1
      have hall : ∀ (j : Nat) (v : Value), (act kind reads key value low high unb limit rev)[j]? = some v → litOk v ∧ w.cell? ⟨a.block, a.off + i * 9 + j, none⟩ = some v := fun j v hj => by
        have hlt : j < 9 := (List.getElem?_eq_some_iff.1 hj).1
        have := hc j hlt
        rw [add_at hsp', hj] at this
        refine ⟨?_, this⟩
        match j, hlt, hj with
        | 0, _, hj | 1, _, hj | 2, _, hj | 3, _, hj | 4, _, hj | 5, _, hj | 6, _, hj | 7, _, hj | 8, _, hj => cases hj; trivial
      exact args_cells (block_of_cell (hall 0 _ rfl).2) hall
end
/-- The lists of acts. -/
theorem open_lists {H : Type} {enc : TypeId × Value → H} {w : World} {base : Nat} {spare : Nat → Bool} {held : Bool} {n : Nat} {cs : List Value} {x : DataW H × List MemPlace}
    (h : DataW.trod enc Tryz.prog w base spare held n 24 cs = some x) (hB : Rows.uptoBulk x.1 ≤ 1048576) :
    cs = [.slice none 0 0] ∨ ∃ a M cap, cs = [.slice (some a) M cap] ∧ (a.spot = none ∨ M = 0) ∧ M ≤ cap ∧ M ≤ 1048576 ∧ Lists2 w a.block a.off M := by
  rcases Deep.open_slice Tryz.underlying24 h with ⟨e, _⟩ | ⟨a, len, cap, m, n, D, Pl, e, _, hlc, _, hm, hx, hel⟩
  · exact .inl e
  · have him : ∀ i, i < len → i < m := fun i hi' => by rw [hm]; split <;> omega
    have h1 : Tryz.prog.cellsOf 40 = 1 := by kernel_rfl
    rw [h1] at hel
    have hsp : a.spot = none ∨ len = 0 := spot_of_elem (k := 1) (by decide) fun hp0 => by
      obtain ⟨cs', k1, _⟩ := hel 0 (him 0 hp0)
      exact ⟨cs', k1⟩
    subst hx
    dsimp only at hB
    have hb := bulk_slice ((List.range len).map D) ((List.range (m - len)).map fun j => D (len + j))
    refine .inr ⟨a, len, cap, e, hsp, hlc, ?_, fun j hj => ?_⟩
    · have := hb.1
      simp only [List.length_map, List.length_range] at this
      omega
    · have hsp' : a.spot = none := hsp.resolve_right (by omega)
      obtain ⟨cs', k1, k2⟩ := hel j (him j hj)
      have hD : Rows.uptoBulk (D j) ≤ 1048576 := by
        have : D j ∈ (List.range len).map D := List.mem_map.2 ⟨j, List.mem_range.2 hj, rfl⟩
        have := bulk_part this
        have := hb.2
        omega
      obtain ⟨v, N, rfl, hv, hN, hA⟩ := open_list (B := 1048576) Tryz.underlying40 Tryz.underlying48 Tryz.underlying46 Tryz.underlying3 Tryz.underlying4 Tryz.underlying9 (by kernel_rfl) (by kernel_rfl) (by kernel_rfl) (by kernel_rfl) (by kernel_rfl) k2 hD
      refine ⟨lit v, N, hN, ?_, hA⟩
      obtain ⟨_, _, hc⟩ := World.cells?_some k1
      have h0 := hc 0 (by decide)
      rw [add_at hsp'] at h0
      exact args_cells (vs := [v]) (block_of_cell (a := ⟨a.block, a.off + j * 1 + 0, none⟩) h0) fun i u hi => by
        match i, hi with
        | 0, hi => cases hi; exact ⟨hv, h0⟩
        | i + 1, hi => simp at hi
set_option maxRecDepth 100000 in
/-- The play. -/
theorem open_play {H : Type} {enc : TypeId × Value → H} {w : World} {base : Nat} {spare : Nat → Bool} {held : Bool} {r : Reach} {b0 : Nat} {v : Value} {d : DataW H} {p : List MemPlace} (hv : Value.okWide Tryz.prog w r b0 27 v) (h : DataW.Trod enc Tryz.prog w base spare held 27 v d p) (hB : Rows.uptoBulk d ≤ 1048576) :
    ∃ (a b c d e g : Int) (x y : Value), v = .agg #[.int .i64 a, .int .i64 b, .int .i64 c, .int .i64 d, .int .i64 e, .int .i64 g, x, y] ∧
      (x = .slice none 0 0 ∨ ∃ a M cap, x = .slice (some a) M cap ∧ (a.spot = none ∨ M = 0) ∧ M ≤ cap ∧ M ≤ 1048576 ∧ Lists2 w a.block a.off M) ∧
      (y = .slice none 0 0 ∨ ∃ a M cap, y = .slice (some a) M cap ∧ (a.spot = none ∨ M = 0) ∧ M ≤ cap) := by
  obtain ⟨cs, rfl, hsz⟩ := okWide_struct Tryz.underlying27 hv
  obtain ⟨fuel, hf⟩ := h
  obtain ⟨xs, n, _, hd, _, hlen, hx⟩ := DataW.trod_struct Tryz.underlying27 hf
  rw [show Tryz.prog.cellsOf 27 = 8 by kernel_rfl] at hsz
  have c23 : Tryz.prog.cellsOf 23 = 6 := by kernel_rfl
  have c24 : Tryz.prog.cellsOf 24 = 1 := by kernel_rfl
  have c25 : Tryz.prog.cellsOf 25 = 1 := by kernel_rfl
  obtain ⟨l⟩ := cs
  match l, hsz with
  | [c0, c1, c2, c3, c4, c5, c6, c7], _ =>
    obtain ⟨y0, _, z0⟩ := field_at hx hlen (i := 0) (f := ⟨ "Limits", 23, 0, false, "", "", 0⟩) rfl
    obtain ⟨y1, m1, z1⟩ := field_at hx hlen (i := 1) (f := ⟨ "Acts", 24, 6, false, "", "", 48⟩) rfl
    obtain ⟨y2, _, z2⟩ := field_at hx hlen (i := 2) (f := ⟨ "Turns", 25, 7, false, "", "", 72⟩) rfl
    simp only [c23, c24, c25] at z0 z1 z2
    obtain ⟨a, b, c, d', e, g, q⟩ := open_lims Tryz.underlying23 Tryz.underlying3 c23 (by kernel_rfl) z0
    simp [Value.cells] at q
    obtain ⟨rfl, rfl, rfl, rfl, rfl, rfl⟩ := q
    have hb1 : Rows.uptoBulk y1.1 ≤ 1048576 := by
      simp only [Prod.mk.injEq] at hd
      obtain ⟨rfl, _⟩ := hd
      have := bulk_part (List.mem_map.2 ⟨y1, m1, rfl⟩ : y1.1 ∈ xs.map (·.1))
      have := bulk_agg (xs.map (·.1))
      omega
    have k1 := open_lists z1 hb1
    simp [Value.cells] at k1
    refine ⟨a, b, c, d', e, g, c6, c7, rfl, ?_, ?_⟩
    · rcases k1 with k1 | ⟨a', M, cap, k1, k2, k3, k4, k5⟩
      · exact .inl k1
      · exact .inr ⟨a', M, cap, k1, k2, k3, k4, k5⟩
    · rcases Deep.open_slice Tryz.underlying25 z2 with ⟨q, _⟩ | ⟨a', len, cap, m, n, D, Pl, q, _, hlc, _, hm, _, hel⟩
      · simp [Value.cells] at q
        exact .inl q
      · simp [Value.cells] at q
        refine .inr ⟨a', len, cap, q, ?_, hlc⟩
        exact spot_of_elem (k := Tryz.prog.cellsOf 5) (by rw [show Tryz.prog.cellsOf 5 = 1 by kernel_rfl]; decide) fun hp0 => by
          obtain ⟨cs', q1, _⟩ := hel 0 (by rw [hm]; split <;> omega)
          exact ⟨cs', q1⟩
end Go.Proofs.YtglaapelpidfhaaGreat
