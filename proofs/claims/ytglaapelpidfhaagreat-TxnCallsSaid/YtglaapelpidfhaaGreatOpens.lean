/- TxnCalls' arguments, opened: limits, acts; and the call over them. No condition. -/
import Derived.Test.YtglaapelpidfhaaGreatOuter
import Derived.WalkKit
import Derived.ProofKit
import Derived.OpenShut
import Derived.ShutString
import Derived.ChangeOld
import Derived.Below
import Derived.Deep.Slices
namespace Go.Proofs.YtglaapelpidfhaaGreat
open Go Go.ChangeShapes Go.WideShapes Go.ChangeAt Go.RowKit
open Go.Sx (argsHeap ArgCells lit litOk args_cells args_calls)

theorem Old.below {w w' : World} (h : Sx.Old w w') : Below w.heap.size w w' := ⟨h.os, h.tape, h.output, h.size, h.keep⟩
/-- The call, by cases. -/
theorem fine_of {W : World} {p : Option Addr} {N cap : Nat} (hN : N ≤ 20 → Loops 13 W (.slice p N cap) N 0 ∧ Loops 32 W (.slice p N cap) N 0) (a b c d e g : Int) : Fine W (.slice p N cap) a b c d e g := by
  by_cases h1 : (N : Int) > 20
  · exact out_w1 (decide_eq_true h1)
  obtain ⟨l13, l32⟩ := hN (by omega)
  by_cases h2 : a > 300
  · exact out_w2 (decide_eq_false h1) (decide_eq_true h2)
  by_cases h3 : b > 60
  · exact out_w3 (decide_eq_false h1) (decide_eq_false h2) (decide_eq_true h3)
  cases h4 : rightB a b c d e g with
  | false =>
    have k4 : (!rightB a b c d e g) = true := by rw [h4]; rfl
    have k5 : (!false == rightB a b c d e g) = false := by rw [h4]; rfl
    rcases l13 with l | l
    · exact out_w4 (decide_eq_false h1) (decide_eq_false h2) (decide_eq_false h3) k4 k5 l
    · exact out_w5 (decide_eq_false h1) (decide_eq_false h2) (decide_eq_false h3) k4 k5 l
  | true =>
    have h5 := of_decide_eq_true h4
    obtain ⟨s, rfl⟩ : ∃ s : Nat, a = .ofNat (s + 1) := ⟨(a - 1).toNat, by simp only [Int.ofNat_eq_natCast]; omega⟩
    obtain ⟨q, rfl⟩ : ∃ q : Nat, b = .ofNat (q + 1) := ⟨(b - 1).toNat, by simp only [Int.ofNat_eq_natCast]; omega⟩
    have k4 : (!rightB (.ofNat (s + 1)) (.ofNat (q + 1)) c d e g) = false := by rw [h4]; rfl
    have k5 : (!true == rightB (.ofNat (s + 1)) (.ofNat (q + 1)) c d e g) = false := by rw [h4]; rfl
    have g0 : ((0 : Int) == g) = false := beq_false_of_ne (by omega)
    have f1 : ¬(Int.ofNat (s + 1) > 4096) := by omega
    have f2 : ¬(g < 1) := by omega
    have f3 : ¬(g > 1099511627776) := by omega
    have f4 : Int.ofNat (s + 1) = Int.ofNat (s + 1) ∧ 0 ≤ Int.ofNat (s + 1) ∧ (208 : Int) * Int.ofNat (s + 1) ≤ 281474976710656 ∧ Int.ofNat (s + 1) ≤ 9223372036854775807 := ⟨rfl, by omega, by omega, by omega⟩
    have f5 : ¬(Int.ofNat (q + 1) > 256) := by omega
    have f6 : Int.ofNat (q + 1) = Int.ofNat (q + 1) ∧ 0 ≤ Int.ofNat (q + 1) ∧ (24 : Int) * Int.ofNat (q + 1) ≤ 281474976710656 ∧ Int.ofNat (q + 1) ≤ 9223372036854775807 := ⟨rfl, by omega, by omega, by omega⟩
    have f7 : ¬(c < 1) := by omega
    have f8 : ¬(c > 64) := by omega
    have f9 : (0 : Int) < ((Int.ofNat (s + 1)).toNat : Int) := by omega
    have f10 : (0 : Int) ≤ 0 ∧ (0 : Int) < ((Int.ofNat (s + 1)).toNat : Int) := by omega
    have f11 : (0 : Int) < ((Int.ofNat (q + 1)).toNat : Int) := by omega
    have f12 : (0 : Int) ≤ 0 ∧ (0 : Int) < ((Int.ofNat (q + 1)).toNat : Int) := by omega
    rcases l32 with l | l
    · exact out_w6 (decide_eq_false h1) (decide_eq_false h2) (decide_eq_false h3) k4 (decide_eq_false f1) (decide_eq_false f2) (decide_eq_false f3) (decide_eq_true f4) (decide_eq_false f5) (decide_eq_true f6)
        (decide_eq_false f7) (decide_eq_false f8) (decide_eq_true f9) (decide_eq_true f10) g0 (decide_eq_true f11) (decide_eq_true f12) k5 l
    · exact out_w7 (decide_eq_false h1) (decide_eq_false h2) (decide_eq_false h3) k4 (decide_eq_false f1) (decide_eq_false f2) (decide_eq_false f3) (decide_eq_true f4) (decide_eq_false f5) (decide_eq_true f6)
        (decide_eq_false f7) (decide_eq_false f8) (decide_eq_true f9) (decide_eq_true f10) g0 (decide_eq_true f11) (decide_eq_true f12) k5 l
theorem fine_calls {W : World} {acts u : Value} {a b c d e g : Int} (h : Fine W acts a b c d e g) (hu : ∀ r, Sx.Rel r acts u) :
    Calls Tryz.prog 4 #[.agg #[.int .i64 a, .int .i64 b, .int .i64 c, .int .i64 d, .int .i64 e, .int .i64 g], u] W fun e W' => e = .returned (.bool true) ∧ Sx.Old W W' := by
  obtain ⟨c1, h1, hd, h0⟩ := h
  refine Calls.mono (args_calls hd h0 (us := #[.agg #[.int .i64 a, .int .i64 b, .int .i64 c, .int .i64 d, .int .i64 e, .int .i64 g], u]) ?_) fun e W' ⟨r', u, he, hr, old⟩ => ?_
  · exact .cons (Sx.RelL.mkAgg (.cons (.int _ _) (.cons (.int _ _) (.cons (.int _ _) (.cons (.int _ _) (.cons (.int _ _) (.cons (.int _ _) .nil))))))) (.cons (hu _) .nil)
  · cases hr; exact ⟨he, old⟩

section
variable {H : Type} {enc : TypeId × Value → H} {P : Program} {w : World} {base : Nat} {spare : Nat → Bool} {held : Bool}
theorem field_at {fs : Array Field} {cs : List Value} {xs : List (DataW H × List MemPlace)} {n : Nat} (hf : ∀ (i : Nat) (f : Field), fs[i]? = some f → DataW.trod enc P w base spare held n f.type ((cs.drop f.offset).take (P.cellsOf f.type)) = xs[i]?)
    (hlen : xs.length = fs.size) {i : Nat} {f : Field} (hi : fs[i]? = some f) : ∃ y, DataW.trod enc P w base spare held n f.type ((cs.drop f.offset).take (P.cellsOf f.type)) = some y := by
  have hlt : i < xs.length := by rw [hlen]; exact (Array.getElem?_eq_some_iff.1 hi).1
  exact ⟨xs[i], by rw [hf i f hi]; simp⟩
theorem open_lims {t ti : TypeId} {n0 g0 q0 n1 g1 q1 n2 g2 q2 n3 g3 q3 n4 g4 q4 n5 g5 q5 : String} {e0 e1 e2 e3 e4 e5 : Bool} {o0 o1 o2 o3 o4 o5 : Nat}
    (hs : P.underlying t = some (.struct #[⟨n0, ti, 0, e0, g0, q0, o0⟩, ⟨n1, ti, 1, e1, g1, q1, o1⟩, ⟨n2, ti, 2, e2, g2, q2, o2⟩, ⟨n3, ti, 3, e3, g3, q3, o3⟩, ⟨n4, ti, 4, e4, g4, q4, o4⟩, ⟨n5, ti, 5, e5, g5, q5, o5⟩])) (hi : P.underlying ti = some (.int .i64)) (h6 : P.cellsOf t = 6) (h1 : P.cellsOf ti = 1)
    {r : Reach} {b0 : Nat} {v : Value} {d : DataW H} {p : List MemPlace} (hv : Value.okWide P w r b0 t v) (h : DataW.Trod enc P w base spare held t v d p) :
    ∃ a b c d e g : Int, v = .agg #[.int .i64 a, .int .i64 b, .int .i64 c, .int .i64 d, .int .i64 e, .int .i64 g] := by
  obtain ⟨cs, rfl, hsz⟩ := okWide_struct hs hv
  obtain ⟨fuel, hf⟩ := h
  obtain ⟨xs, n, _, _, hl, hlen, hx⟩ := DataW.trod_struct hs hf
  rw [h6] at hsz
  obtain ⟨l⟩ := cs
  match l, hsz with
  | [c0, c1, c2, c3, c4, c5], _ =>
    obtain ⟨y0, z0⟩ := field_at hx hlen (i := 0) (f := ⟨n0, ti, 0, e0, g0, q0, o0⟩) rfl
    obtain ⟨y1, z1⟩ := field_at hx hlen (i := 1) (f := ⟨n1, ti, 1, e1, g1, q1, o1⟩) rfl
    obtain ⟨y2, z2⟩ := field_at hx hlen (i := 2) (f := ⟨n2, ti, 2, e2, g2, q2, o2⟩) rfl
    obtain ⟨y3, z3⟩ := field_at hx hlen (i := 3) (f := ⟨n3, ti, 3, e3, g3, q3, o3⟩) rfl
    obtain ⟨y4, z4⟩ := field_at hx hlen (i := 4) (f := ⟨n4, ti, 4, e4, g4, q4, o4⟩) rfl
    obtain ⟨y5, z5⟩ := field_at hx hlen (i := 5) (f := ⟨n5, ti, 5, e5, g5, q5, o5⟩) rfl
    obtain ⟨a, xz0, _⟩ := DataW.trod_int hi z0
    obtain ⟨b, xz1, _⟩ := DataW.trod_int hi z1
    obtain ⟨c, xz2, _⟩ := DataW.trod_int hi z2
    obtain ⟨d, xz3, _⟩ := DataW.trod_int hi z3
    obtain ⟨e, xz4, _⟩ := DataW.trod_int hi z4
    obtain ⟨g, xz5, _⟩ := DataW.trod_int hi z5
    simp [Value.cells, h1] at xz0 xz1 xz2 xz3 xz4 xz5
    subst xz0 xz1 xz2 xz3 xz4 xz5
    exact ⟨a, b, c, d, e, g, rfl⟩
/-- The acts. -/
theorem open_act {ta tp ti tb ts : TypeId} {n0 g0 q0 n1 g1 q1 n2 g2 q2 n3 g3 q3 n4 g4 q4 n5 g5 q5 n6 g6 q6 n7 g7 q7 n8 g8 q8 n9 g9 q9 : String} {e0 e1 e2 e3 e4 e5 e6 e7 e8 e9 : Bool} {o0 o1 o2 o3 o4 o5 o6 o7 o8 o9 : Nat}
    (hs : P.underlying ta = some (.struct #[⟨n0, ti, 0, e0, g0, q0, o0⟩, ⟨n1, tb, 1, e1, g1, q1, o1⟩, ⟨n2, ts, 2, e2, g2, q2, o2⟩, ⟨n3, ts, 3, e3, g3, q3, o3⟩, ⟨n4, tp, 4, e4, g4, q4, o4⟩, ⟨n5, ti, 7, e5, g5, q5, o5⟩, ⟨n6, tb, 8, e6, g6, q6, o6⟩]))
    (hp : P.underlying tp = some (.struct #[⟨n7, ts, 0, e7, g7, q7, o7⟩, ⟨n8, ts, 1, e8, g8, q8, o8⟩, ⟨n9, tb, 2, e9, g9, q9, o9⟩])) (hi : P.underlying ti = some (.int .i64)) (hb : P.underlying tb = some .bool) (hS : P.underlying ts = some .string)
    (h9 : P.cellsOf ta = 9) (h1 : P.cellsOf ti = 1) (h2 : P.cellsOf tb = 1) (h3 : P.cellsOf ts = 1) (h4 : P.cellsOf tp = 3)
    {n : Nat} {cs : List Value} {x : DataW H × List MemPlace} (h : DataW.trod enc P w base spare held n ta cs = some x) :
    ∃ (kind : Int) (reads : Bool) (key value low high : ByteArray) (unb : Bool) (limit : Int) (rev : Bool), cs = act kind reads key value low high unb limit rev := by
  obtain ⟨xs, m1, _, _, hl, hlen, hx⟩ := DataW.trod_struct hs h
  rw [h9] at hl
  match cs, hl with
  | [c0, c1, c2, c3, c4, c5, c6, c7, c8], _ =>
    obtain ⟨y0, z0⟩ := field_at hx hlen (i := 0) (f := ⟨n0, ti, 0, e0, g0, q0, o0⟩) rfl
    obtain ⟨y1, z1⟩ := field_at hx hlen (i := 1) (f := ⟨n1, tb, 1, e1, g1, q1, o1⟩) rfl
    obtain ⟨y2, z2⟩ := field_at hx hlen (i := 2) (f := ⟨n2, ts, 2, e2, g2, q2, o2⟩) rfl
    obtain ⟨y3, z3⟩ := field_at hx hlen (i := 3) (f := ⟨n3, ts, 3, e3, g3, q3, o3⟩) rfl
    obtain ⟨y4, z4⟩ := field_at hx hlen (i := 4) (f := ⟨n4, tp, 4, e4, g4, q4, o4⟩) rfl
    obtain ⟨y5, z5⟩ := field_at hx hlen (i := 5) (f := ⟨n5, ti, 7, e5, g5, q5, o5⟩) rfl
    obtain ⟨y6, z6⟩ := field_at hx hlen (i := 6) (f := ⟨n6, tb, 8, e6, g6, q6, o6⟩) rfl
    obtain ⟨kind, xz0, _⟩ := DataW.trod_int hi z0
    obtain ⟨reads, xz1, _⟩ := DataW.trod_bool hb z1
    obtain ⟨key, xz2, _⟩ := DataW.trod_string hS z2
    obtain ⟨value, xz3, _⟩ := DataW.trod_string hS z3
    obtain ⟨limit, xz5, _⟩ := DataW.trod_int hi z5
    obtain ⟨rev, xz6, _⟩ := DataW.trod_bool hb z6
    obtain ⟨zs, m2, _, _, _, zlen, hz⟩ := DataW.trod_struct hp z4
    obtain ⟨u0, f0⟩ := field_at hz zlen (i := 0) (f := ⟨n7, ts, 0, e7, g7, q7, o7⟩) rfl
    obtain ⟨u1, f1⟩ := field_at hz zlen (i := 1) (f := ⟨n8, ts, 1, e8, g8, q8, o8⟩) rfl
    obtain ⟨u2, f2⟩ := field_at hz zlen (i := 2) (f := ⟨n9, tb, 2, e9, g9, q9, o9⟩) rfl
    obtain ⟨low, xf0, _⟩ := DataW.trod_string hS f0
    obtain ⟨high, xf1, _⟩ := DataW.trod_string hS f1
    obtain ⟨unb, xf2, _⟩ := DataW.trod_bool hb f2
    simp [h1, h2, h3, h4] at xz0 xz1 xz2 xz3 xz5 xz6 xf0 xf1 xf2
    subst xz0 xz1 xz2 xz3 xz5 xz6 xf0 xf1 xf2
    exact ⟨kind, reads, key, value, low, high, unb, limit, rev, rfl⟩
theorem open_acts {tl ta tp ti tb ts : TypeId} {n0 g0 q0 n1 g1 q1 n2 g2 q2 n3 g3 q3 n4 g4 q4 n5 g5 q5 n6 g6 q6 n7 g7 q7 n8 g8 q8 n9 g9 q9 : String} {e0 e1 e2 e3 e4 e5 e6 e7 e8 e9 : Bool} {o0 o1 o2 o3 o4 o5 o6 o7 o8 o9 : Nat}
    (hl : P.underlying tl = some (.slice ta)) (hs : P.underlying ta = some (.struct #[⟨n0, ti, 0, e0, g0, q0, o0⟩, ⟨n1, tb, 1, e1, g1, q1, o1⟩, ⟨n2, ts, 2, e2, g2, q2, o2⟩, ⟨n3, ts, 3, e3, g3, q3, o3⟩, ⟨n4, tp, 4, e4, g4, q4, o4⟩, ⟨n5, ti, 7, e5, g5, q5, o5⟩, ⟨n6, tb, 8, e6, g6, q6, o6⟩]))
    (hp : P.underlying tp = some (.struct #[⟨n7, ts, 0, e7, g7, q7, o7⟩, ⟨n8, ts, 1, e8, g8, q8, o8⟩, ⟨n9, tb, 2, e9, g9, q9, o9⟩])) (hi : P.underlying ti = some (.int .i64)) (hb : P.underlying tb = some .bool) (hS : P.underlying ts = some .string)
    (h9 : P.cellsOf ta = 9) (h1 : P.cellsOf ti = 1) (h2 : P.cellsOf tb = 1) (h3 : P.cellsOf ts = 1) (h4 : P.cellsOf tp = 3)
    {r : Reach} {b0 : Nat} {v : Value} {d : DataW H} {p : List MemPlace} (hv : Value.okWide P w r b0 tl v) (h : DataW.Trod enc P w base spare held tl v d p) :
    v = .slice none 0 0 ∨ ∃ blk off N cap, v = .slice (some ⟨blk, off, none⟩) N cap ∧ N ≤ cap ∧ ∀ i, i < N → ∃ kind reads key value low high unb limit rev, ArgCells w.heap.size w blk (off + i * 9) (act kind reads key value low high unb limit rev) := by
  obtain ⟨a, len, cap, rfl⟩ := okWide_slice hl hv
  obtain ⟨fuel, hf⟩ := h
  rcases Deep.open_slice hl hf with ⟨e, _⟩ | ⟨a', len', cap', m, n, D, Pl, e, _, hlc, _, hm, _, hx⟩
  · simp only [Value.cells, List.cons.injEq, and_true] at e
    exact .inl e
  · simp only [Value.cells, List.cons.injEq, and_true] at e
    cases e
    have hsp : a'.spot = none := by
      simp only [Value.okWide, hl, Cell.okWide, Cell.ok] at hv
      exact hv.2.2.2.1
    obtain ⟨blk, off, sp⟩ := a'
    simp only at hsp
    subst hsp
    refine .inr ⟨blk, off, len, cap, rfl, hlc, fun i hi' => ?_⟩
    have him : i < m := by rw [hm]; split <;> omega
    obtain ⟨cs, k1, k2⟩ := hx i him
    obtain ⟨kind, reads, key, value, low, high, unb, limit, rev, rfl⟩ := open_act hs hp hi hb hS h9 h1 h2 h3 h4 k2
    refine ⟨kind, reads, key, value, low, high, unb, limit, rev, ?_⟩
    obtain ⟨_, _, hc⟩ := World.cells?_some k1
    rw [h9] at hc
    have hadd : ∀ j, (((⟨blk, off, none⟩ : Addr).add (i * 9)).add j) = ⟨blk, off + i * 9 + j, none⟩ := fun j => by
      unfold Addr.add
      split <;> split <;> simp_all
    have hall : ∀ (j : Nat) (v : Value), (act kind reads key value low high unb limit rev)[j]? = some v → litOk v ∧ w.cell? ⟨blk, off + i * 9 + j, none⟩ = some v := fun j v hj => by
      have hlt : j < 9 := (List.getElem?_eq_some_iff.1 hj).1
      have := hc j hlt
      rw [hadd, hj] at this
      refine ⟨?_, this⟩
      match j, hlt, hj with
      | 0, _, hj | 1, _, hj | 2, _, hj | 3, _, hj | 4, _, hj | 5, _, hj | 6, _, hj | 7, _, hj | 8, _, hj => cases hj; trivial
    have hb : blk < w.heap.size := by
      have := (hall 0 _ rfl).2
      unfold World.cell? at this
      cases e : w.heap[blk]? with
      | none => simp [e] at this
      | some o => exact (Array.getElem?_eq_some_iff.1 e).1
    exact args_cells hb hall
end
end Go.Proofs.YtglaapelpidfhaaGreat
