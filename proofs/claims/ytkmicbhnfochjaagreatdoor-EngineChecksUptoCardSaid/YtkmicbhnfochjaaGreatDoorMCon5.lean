/- strings.Split and strings.Join as the symbolic executor meets them. No condition. -/
import Derived.Test.YtkmicbhnfochjaaGreatDoorMLay
import Derived.Test.YtkmicbhnfochjaaGreatDoorMSha2
import Derived.Test.YtkmicbhnfochjaaGreatDoorMSpl

namespace Go.Proofs.YtkmicbhnfochjaaGreatDoor
open Go Go.Sx Go.Eng
/-- What the library asks of old memory: bytealg's MaxLen is a number; errors.errorType is the type of errors. -/
def glob (w : World) : Prop := (∃ m, w.cell? ⟨1, 0, none⟩ = some (.int .i64 m)) ∧ w.cell? ⟨0, 0, none⟩ = some (.iface 174 (.agg #[.pointer (some ⟨7, 24, none⟩)]))
theorem glob_stable {B : Nat} (h : 2 ≤ B) : StableAt glob B := fun w w' hw ⟨⟨m, h1⟩, h2⟩ =>
  ⟨⟨m, by rw [World.cell?_of_block (w := w) (w' := w') (hw 1 (by omega))]; exact h1⟩, by rw [World.cell?_of_block (w := w) (w' := w') (hw 0 (by omega))]; exact h2⟩
/-- The parts of a text at a byte. -/
def cutS (c : UInt8) (s : ByteArray) : List ByteArray := (cutL c s.data.toList).map fun l => ⟨⟨l⟩⟩
theorem split_parts (c : UInt8) (s : ByteArray) : Lib.splitB ⟨#[c]⟩ 0 (Lib.countB s ⟨#[c]⟩) s = cutS c s := by
  unfold cutS
  rw [← splitB_cut, List.map_map]
  exact ((List.map_congr_left (g := id) fun _ _ => rfl).trans (List.map_id _)).symm
theorem split_makes (c : UInt8) (s : ByteArray) (hs : s.data.toList.length ≤ 4294967280) : MakesW Tryz.prog glob 24 [.string s, .string ⟨#[c]⟩] (cutS c s) := by
  intro r us w hw hu
  obtain ⟨⟨m, hm⟩, _⟩ := hw
  obtain ⟨us⟩ := us
  cases hu with
  | cons x1 t1 => cases t1 with
    | cons x2 t2 => cases t2; cases x1; cases x2
                    have hsz : s.size < 4294967281 := by
                      have : s.size = s.data.toList.length := Array.length_toList.symm
                      omega
                    refine (Tryz.strings_Split s ⟨#[c]⟩ m w hsz hm (Nat.le_refl 1)).mono fun e w' ⟨he, hw'⟩ => ?_
                    have hl : (cutS c s).length = Lib.countB s ⟨#[c]⟩ + 1 := by
                      rw [← split_parts]; exact Lib.splitB_all ⟨#[c]⟩ (Nat.le_refl 1) 0 _ s rfl
                    rw [split_parts] at hw'
                    have hc : Tryz.prog.cellsOf 9 = 1 := by kernel_rfl
                    refine ⟨w.heap.size, Lib.countB s ⟨#[c]⟩ + 1, ((cutS c s).map Value.string).toArray, by rw [hl]; exact he, ?_, Nat.le_refl _, ?_, ?_, ?_, ?_, ?_⟩
                    · subst hw'
                      exact ⟨rfl, rfl, rfl, by show _ ≤ (w.heap.push _).size; simp, fun b hb => by show (w.heap.push _)[b]? = _; simp [Array.getElem?_push, Nat.ne_of_lt hb]⟩
                    · subst hw'
                      show (w.heap.push _)[w.heap.size]? = _
                      simp
                    · show ((cutS c s).map Value.string).take _ = _
                      rw [List.take_of_length_le (by rw [List.length_map]; exact Nat.le_refl _)]
                    · omega
                    · simp
                    · rw [hc, ← hl]; simp
end Go.Proofs.YtkmicbhnfochjaaGreatDoor

namespace Go.Proofs.YtkmicbhnfochjaaGreatDoor
open Go Go.Sx Go.Eng
theorem cover_row {row : List ByteArray} {vs : List Value} {nm : Nat → Option Nat} (h : vs = row.map Value.string) : Cover (row.map Value.string) (vs.map (renV nm 9)) := by subst h; exact cover_str
/-- The document's split's loop. -/
noncomputable def rsc : Code := subC [1, 1, 0, 1, 0, 0] (bodyC 13)
def rsH (out : List ByteArray) : Heap := [(1, .cells (out.map Value.string) 9)]
noncomputable def rsT (s : ByteArray) (c : Int) (out : List ByteArray) (j : Nat) : List Value := mkT 40 0 [(0, .string s), (1, .int .u8 c), (5, .slice (some ⟨1, 0, none⟩) out.length 0), (6, .int .i64 j)]
set_option maxRecDepth 100000 in
theorem rs_a {s : ByteArray} {c : Int} {out row : List ByteArray} {j : Nat} (h0 : (decide ((↑j : Int) < (↑s.data.toList.length : Int))) = true) (h1 : (decide ((0 : Int) ≤ (↑j : Int) ∧ (↑j : Int) < (↑s.data.toList.length : Int))) = true) (h2 : ((↑(s.data.toList.getD j (0 : UInt8)).toNat : Int) == c) = true) (h3 : (bigOk (out.length + (1 : Nat)) (16 : Nat)) = true)  : Sx.Goes Tryz.prog 1 2 4 (rsH out) rsc (rsT s c out j) (rsH (out ++ [(⟨⟨[]⟩⟩ : ByteArray)])) (mkT 40 0 [(0, .string s), (1, .int .u8 c), (5, .slice (some ⟨1, 0, none⟩) (out.length + 1) 0), (6, .int .i64 (IntKind.i64.wrap ((j : Int) + 1)))]) :=
  goes_of mixed noC_gives.holds [(1, 3)] [(3, true)] (d := [(0, .br true), (1, .br true), (2, .br true), (5, .cell (.tuple ⟨List.map Value.string out⟩)), (6, .br true)]) (n := 600) (c2 := 4) (L' := [.p (Cover ((out ++ [(⟨⟨[]⟩⟩ : ByteArray)]).map Value.string) ((out.map Value.string ++ [Value.string ⟨⟨[]⟩⟩]).map (renV (nameOf [(1, 3)] 1 4) 9)))]) (L := [.b (bigOk (out.length + (1 : Nat)) (16 : Nat)), .p (List.take (out.length * (1 : Nat)) (List.drop (0 : Nat) (List.map Value.string out)) = List.map Value.string out ∧ (List.map Value.string out).length = out.length * (1 : Nat)), .b (((↑(s.data.toList.getD j (0 : UInt8)).toNat : Int) == c) == true), .b (decide ((0 : Int) ≤ (↑j : Int) ∧ (↑j : Int) < (↑s.data.toList.length : Int))), .b ((decide ((↑j : Int) < (↑s.data.toList.length : Int))) == true)]) (by kernel_rfl) rfl rfl (vcs_cons (cover_row (by simp)) vcs_nil) (vcs_cons (vc_c h3) (vcs_cons (⟨by rw [List.drop_zero]; exact List.take_of_length_le (by simp), by simp⟩) (vcs_cons (vc_b h2) (vcs_cons (vc_c h1) (vcs_cons (vc_b h0) vcs_nil)))))
set_option maxRecDepth 100000 in
theorem rs_b {s : ByteArray} {c : Int} {out row : List ByteArray} {j : Nat} (h0 : (decide ((↑j : Int) < (↑s.data.toList.length : Int))) = true) (h1 : (decide ((0 : Int) ≤ (↑j : Int) ∧ (↑j : Int) < (↑s.data.toList.length : Int))) = true) (h2 : ((↑(s.data.toList.getD j (0 : UInt8)).toNat : Int) == c) = false) (h3 : (decide ((0 : Int) ≤ IntKind.i64.wrap ((↑out.length : Int) - (1 : Int)) ∧ IntKind.i64.wrap ((↑out.length : Int) - (1 : Int)) < (↑out.length : Int))) = true) (h4 : (decide ((0 : Int) ≤ (↑j : Int) ∧ (↑j : Int) ≤ IntKind.i64.wrap ((↑j : Int) + (1 : Int)) ∧ IntKind.i64.wrap ((↑j : Int) + (1 : Int)) ≤ (↑s.data.toList.length : Int))) = true) (h5 : (((out.getD (IntKind.i64.wrap ((↑out.length : Int) - (1 : Int))).toNat default).data.toList.length + (subStr s j (IntKind.i64.wrap ((↑j : Int) + (1 : Int))).toNat).data.toList.length).ble (9223372036854775807 : Nat)) = true) (h6 : (hasLen ((0 : Nat) + (IntKind.i64.wrap ((↑out.length : Int) - (1 : Int))).toNat * (1 : Nat) + (1 : Nat)) (List.map Value.string out)) = true) (hrow : setAll (out.map Value.string) (0 + (IntKind.i64.wrap ((out.length : Int) - 1)).toNat * 1) [.string (catB (out.getD (IntKind.i64.wrap ((out.length : Int) - 1)).toNat default) (subStr s j (IntKind.i64.wrap ((j : Int) + 1)).toNat))] = row.map Value.string) : Sx.Goes Tryz.prog 1 2 4 (rsH out) rsc (rsT s c out j) (rsH row) (mkT 40 0 [(0, .string s), (1, .int .u8 c), (5, .slice (some ⟨1, 0, none⟩) out.length 0), (6, .int .i64 (IntKind.i64.wrap ((j : Int) + 1)))]) :=
  goes_of mixed noC_gives.holds [(1, 1)] [(1, true)] (d := [(0, .br true), (1, .br true), (2, .br false), (3, .br true), (4, .cell (.tuple ⟨[Value.string (out.getD (IntKind.i64.wrap ((↑out.length : Int) - (1 : Int))).toNat default)]⟩)), (5, .br true), (6, .br true), (7, .br true), (8, .br true)]) (n := 600) (c2 := 2) (L' := [.p (Cover (row.map Value.string) ((setAll (out.map Value.string) (0 + (IntKind.i64.wrap ((out.length : Int) - 1)).toNat * 1) [.string (catB (out.getD (IntKind.i64.wrap ((out.length : Int) - 1)).toNat default) (subStr s j (IntKind.i64.wrap ((j : Int) + 1)).toNat))]).map (renV (nameOf [(1, 1)] 1 4) 9)))]) (L := [.b (hasLen ((0 : Nat) + (IntKind.i64.wrap ((↑out.length : Int) - (1 : Int))).toNat * (1 : Nat) + (1 : Nat)) (List.map Value.string out)), .b (decide ((0 : Int) ≤ IntKind.i64.wrap ((↑out.length : Int) - (1 : Int)) ∧ IntKind.i64.wrap ((↑out.length : Int) - (1 : Int)) < (↑out.length : Int))), .b (((out.getD (IntKind.i64.wrap ((↑out.length : Int) - (1 : Int))).toNat default).data.toList.length + (subStr s j (IntKind.i64.wrap ((↑j : Int) + (1 : Int))).toNat).data.toList.length).ble (9223372036854775807 : Nat)), .b (decide ((0 : Int) ≤ (↑j : Int) ∧ (↑j : Int) ≤ IntKind.i64.wrap ((↑j : Int) + (1 : Int)) ∧ IntKind.i64.wrap ((↑j : Int) + (1 : Int)) ≤ (↑s.data.toList.length : Int))), .p (List.take (1 : Nat) (List.drop ((0 : Nat) + (IntKind.i64.wrap ((↑out.length : Int) - (1 : Int))).toNat * (1 : Nat)) (List.map Value.string out)) = [Value.string (out.getD (IntKind.i64.wrap ((↑out.length : Int) - (1 : Int))).toNat default)] ∧ [Value.string (out.getD (IntKind.i64.wrap ((↑out.length : Int) - (1 : Int))).toNat default)].length = (1 : Nat)), .b (decide ((0 : Int) ≤ IntKind.i64.wrap ((↑out.length : Int) - (1 : Int)) ∧ IntKind.i64.wrap ((↑out.length : Int) - (1 : Int)) < (↑out.length : Int))), .b (((↑(s.data.toList.getD j (0 : UInt8)).toNat : Int) == c) == false), .b (decide ((0 : Int) ≤ (↑j : Int) ∧ (↑j : Int) < (↑s.data.toList.length : Int))), .b ((decide ((↑j : Int) < (↑s.data.toList.length : Int))) == true)]) (by kernel_rfl) rfl rfl (vcs_cons (cover_row hrow) vcs_nil) (vcs_cons (vc_c h6) (vcs_cons (vc_c h3) (vcs_cons (vc_c h5) (vcs_cons (vc_c h4) (vcs_cons ((rd_map1 (by omega) (by simp only [decide_eq_true_eq, decide_eq_false_iff_not] at *; omega))) (vcs_cons (vc_c h3) (vcs_cons (vc_b h2) (vcs_cons (vc_c h1) (vcs_cons (vc_b h0) vcs_nil)))))))))
set_option maxRecDepth 100000 in
theorem rs_e {s : ByteArray} {c : Int} {out row : List ByteArray} {j : Nat} (h0 : (decide ((↑j : Int) < (↑s.data.toList.length : Int))) = false)  : Sx.Ends Tryz.prog 1 2 4 (rsH out) rsc (rsT s c out j) (.exit 0) (rsH out) (mkT 40 0 [(5, .slice (some ⟨1, 0, none⟩) out.length 0)]) :=
  ends_of mixed noC_gives.holds [(1, 1)] [(1, true)] (d := [(0, .br false)]) (n := 600) (c2 := 2) (L' := [.p (Cover (out.map Value.string) ((out.map Value.string).map (renV (nameOf [(1, 1)] 1 4) 9)))]) (L := [.b ((decide ((↑j : Int) < (↑s.data.toList.length : Int))) == false)]) (by kernel_rfl) rfl rfl (vcs_cons cover_str vcs_nil) (vcs_cons (vc_b h0) vcs_nil)
set_option maxRecDepth 100000 in
theorem rs_call {s : ByteArray} {c : Int} {fin : List ByteArray}  (hl : Does Tryz.prog 1 [(0, .cells [.string ⟨⟨[]⟩⟩] 9)] 4 (rsH fin) (.inLoop rsc (mkT 40 0 [(0, .string s), (1, .int .u8 c), (5, .slice (some ⟨0, 0, none⟩) 1 0), (6, .int .i64 0)])) (.out (.exit 0) (mkT 40 0 [(5, .slice (some ⟨1, 0, none⟩) fin.length 0)]))) : Does Tryz.prog 0 [] 4 [(0, .cells (fin.map Value.string) 9)] (.call 13 [.string s, .int .u8 c]) (.val (.slice (some ⟨0, 0, none⟩) fin.length 0)) :=
  call_of mixed noC_gives.holds [(0, 1)] [(1, true)] (d := [(0, .loop [0, 1, 5, 6] [0] 4 (rsH fin) (.exit 0) (mkT 40 0 [(5, .slice (some ⟨1, 0, none⟩) fin.length 0)]))]) (n := 600) (c2 := 4) (L' := [.p (Cover (fin.map Value.string) ((fin.map Value.string).map (renV (nameOf [(0, 1)] 0 4) 9)))]) (L := [.p (Does Tryz.prog 1 [(0, .cells [.string ⟨⟨[]⟩⟩] 9)] 4 (rsH fin) (.inLoop rsc (mkT 40 0 [(0, .string s), (1, .int .u8 c), (5, .slice (some ⟨0, 0, none⟩) 1 0), (6, .int .i64 0)])) (.out (.exit 0) (mkT 40 0 [(5, .slice (some ⟨1, 0, none⟩) fin.length 0)])))]) (by kernel_rfl) rfl rfl (vcs_cons cover_str vcs_nil) (vcs_cons (hl) vcs_nil)
end Go.Proofs.YtkmicbhnfochjaaGreatDoor

namespace Go.Proofs.YtkmicbhnfochjaaGreatDoor
open Go Go.Sx Go.Eng
theorem le_hasLen {α : Type} : ∀ {n : Nat} {l : List α}, n ≤ l.length → hasLen n l = true
  | 0, _, _ => rfl
  | n + 1, [], h => by simp at h
  | n + 1, _ :: l, h => le_hasLen (n := n) (l := l) (by simpa using h)
def mkB (l : List UInt8) : ByteArray := ⟨⟨l⟩⟩
theorem rs_row {pre : List (List UInt8)} {x : List UInt8} {s : ByteArray} {j : Nat} (hj : j < s.data.toList.length) (hs : s.data.toList.length ≤ 4294967280) (hp : pre.length ≤ 4294967295) {out : List ByteArray} (ho : out = (pre ++ [x]).map mkB) :
    setAll (out.map Value.string) (0 + (IntKind.i64.wrap ((out.length : Int) - 1)).toNat * 1) [.string (catB (out.getD (IntKind.i64.wrap ((out.length : Int) - 1)).toNat default) (subStr s j (IntKind.i64.wrap ((j : Int) + 1)).toNat))] =
      ((pre ++ [x ++ [s.data.toList.getD j 0]]).map mkB).map Value.string := by
  have hl : out.length = pre.length + 1 := by rw [ho]; simp
  have hK : (IntKind.i64.wrap ((out.length : Int) - 1)).toNat = pre.length := by
    rw [wrap64 (by omega) (by omega)]; omega
  have hJ : (IntKind.i64.wrap ((j : Int) + 1)).toNat = j + 1 := by rw [wrap64 (by omega) (by omega)]; omega
  rw [hK, hJ]
  have hg : out.getD pre.length default = mkB x := by
    rw [ho, List.getD_eq_getElem?_getD]
    simp
  have hsub : subStr s j (j + 1) = mkB [s.data.toList.getD j 0] := by
    unfold subStr mkB
    rw [drop_at hj]
    simp
  rw [hg, hsub]
  simp only [setAll]
  rw [ho]
  simp [List.set_append, catB, mkB]
theorem rs_mid {s : ByteArray} {cb : UInt8} (hs : s.data.toList.length ≤ 4294967280) {h0 : Heap} {fin : List ByteArray} : ∀ (k j : Nat) (pre : List (List UInt8)) (x : List UInt8), j + k = s.data.toList.length → pre.length ≤ j → x.length ≤ j →
    fin = ((s.data.toList.drop j).foldl (refStep cb) (pre ++ [x])).map mkB →
    Mid Tryz.prog 1 h0 2 (rsH ((pre ++ [x]).map mkB)) 4 (rsH fin) rsc (rsT s cb.toNat ((pre ++ [x]).map mkB) j) (.exit 0) (mkT 40 0 [(5, .slice (some ⟨1, 0, none⟩) fin.length 0)]) := by
  intro k
  induction k with
  | zero =>
    intro j pre x hj hp hx hf
    rw [List.drop_of_length_le (by omega)] at hf
    simp only [List.foldl_nil] at hf
    subst hf
    exact (rs_e (row := []) (decide_eq_false (by omega))).mid (by simp) (by decide)
  | succ k ih =>
    intro j pre x hj hp hx hf
    have hl : j < s.data.toList.length := by omega
    rw [drop_at hl, List.foldl_cons] at hf
    have b0 : decide ((j : Int) < (s.data.toList.length : Int)) = true := decide_eq_true (by omega)
    have b1 : decide ((0 : Int) ≤ (j : Int) ∧ (j : Int) < (s.data.toList.length : Int)) = true := decide_eq_true (by omega)
    have hlen : ((pre ++ [x]).map mkB).length = pre.length + 1 := by simp
    by_cases e : s.data.toList.getD j 0 = cb
    · have b2 : (((s.data.toList.getD j 0).toNat : Int) == (cb.toNat : Int)) = true := by rw [e]; simp
      have b3 : bigOk (((pre ++ [x]).map mkB).length + 1) 16 = true := by
        rw [hlen]
        exact Nat.ble_eq_true_of_le (by omega)
      have g := rs_a (s := s) (c := cb.toNat) (out := (pre ++ [x]).map mkB) (row := []) (j := j) b0 b1 b2 b3
      rw [wrap64 (by omega) (by omega)] at g
      have hst : refStep cb (pre ++ [x]) (s.data.toList.getD j 0) = (pre ++ [x]) ++ [[]] := by unfold refStep; rw [if_pos e]
      rw [hst] at hf
      have q := ih (j + 1) (pre ++ [x]) [] (by omega) (by simp; omega) (by simp) hf
      refine g.mid (by decide) (by decide) ?_
      have e1 : ((pre ++ [x] ++ [([] : List UInt8)]).map mkB) = (pre ++ [x]).map mkB ++ [(⟨⟨[]⟩⟩ : ByteArray)] := by simp [mkB]
      rw [e1] at q
      have e2 : rsT s cb.toNat ((pre ++ [x]).map mkB ++ [(⟨⟨[]⟩⟩ : ByteArray)]) (j + 1) = mkT 40 0 [(0, .string s), (1, .int .u8 cb.toNat), (5, .slice (some ⟨1, 0, none⟩) (((pre ++ [x]).map mkB).length + 1) 0), (6, .int .i64 ((j : Int) + 1))] := by
        unfold rsT
        rw [List.length_append, List.length_singleton]
        rfl
      rw [e2] at q
      exact q
    · have b2 : (((s.data.toList.getD j 0).toNat : Int) == (cb.toNat : Int)) = false := by
        rw [beq_eq_false_iff_ne]
        intro q
        exact e (UInt8.toNat_inj.1 (Int.ofNat_inj.1 q))
      have hw : IntKind.i64.wrap ((((pre ++ [x]).map mkB).length : Int) - 1) = (pre.length : Int) := by
        rw [hlen, wrap64 (by omega) (by omega)]; omega
      have b3 : decide ((0 : Int) ≤ IntKind.i64.wrap ((((pre ++ [x]).map mkB).length : Int) - 1) ∧ IntKind.i64.wrap ((((pre ++ [x]).map mkB).length : Int) - 1) < (((pre ++ [x]).map mkB).length : Int)) = true := by
        rw [hw, hlen]; exact decide_eq_true (by omega)
      have b4 : decide ((0 : Int) ≤ (j : Int) ∧ (j : Int) ≤ IntKind.i64.wrap ((j : Int) + 1) ∧ IntKind.i64.wrap ((j : Int) + 1) ≤ (s.data.toList.length : Int)) = true := by
        rw [wrap64 (by omega) (by omega)]; exact decide_eq_true (by omega)
      have hst : refStep cb (pre ++ [x]) (s.data.toList.getD j 0) = pre ++ [x ++ [s.data.toList.getD j 0]] := by
        unfold refStep
        rw [if_neg e]
        simp
      rw [hst] at hf
      have q := ih (j + 1) pre (x ++ [s.data.toList.getD j 0]) (by omega) (by omega) (by simp; omega) hf
      have hr := rs_row (pre := pre) (x := x) hl hs (by omega) rfl
      have hget : (((pre ++ [x]).map mkB).getD (IntKind.i64.wrap ((((pre ++ [x]).map mkB).length : Int) - 1)).toNat default) = mkB x := by
        rw [hw, List.getD_eq_getElem?_getD]; simp
      have hsub : subStr s j (IntKind.i64.wrap ((j : Int) + 1)).toNat = mkB [s.data.toList.getD j 0] := by
        rw [wrap64 (by omega) (by omega), show ((j : Int) + 1).toNat = j + 1 by omega]
        unfold subStr mkB
        rw [drop_at hl]
        simp
      have g := rs_b (s := s) (c := cb.toNat) (out := (pre ++ [x]).map mkB) (row := (pre ++ [x ++ [s.data.toList.getD j 0]]).map mkB) (j := j) b0 b1 b2 b3 b4
        (by rw [hget, hsub]; exact Nat.ble_eq_true_of_le (by show x.length + 1 ≤ 9223372036854775807; omega))
        (le_hasLen (by rw [hw, List.length_map, hlen]; omega)) hr
      rw [wrap64 (by omega) (by omega)] at g
      refine g.mid (by decide) (by decide) ?_
      have e2 : rsT s cb.toNat ((pre ++ [x ++ [s.data.toList.getD j 0]]).map mkB) (j + 1) = mkT 40 0 [(0, .string s), (1, .int .u8 cb.toNat), (5, .slice (some ⟨1, 0, none⟩) ((pre ++ [x]).map mkB).length 0), (6, .int .i64 ((j : Int) + 1))] := by
        unfold rsT
        rw [show ((pre ++ [x ++ [s.data.toList.getD j 0]]).map mkB).length = ((pre ++ [x]).map mkB).length by simp]
        rfl
      rw [e2] at q
      exact q
/-- A call that makes a row, out of what it does from nothing. -/
theorem makes_of_does {φ : World → Prop} {f : FuncId} {args : List Value} {row : List ByteArray} {c1 : Nat} (hd : Does Tryz.prog 0 [] c1 [(0, .cells (row.map Value.string) 9)] (.call f args) (.val (.slice (some ⟨0, 0, none⟩) row.length 0))) (ha : eachL (bare 9) args = true) : MakesW Tryz.prog φ f args row := by
  intro r us w _ hu
  have hus : us.toList = args := eachL_eq (bare_eq 9) ha hu
  have hu' : RelL nil args us.toList := by rw [hus]; exact eachL_rel (bare_rel 9) ha
  refine Calls.mono (hd.2 nil noOne w (sat_nil w) (fun n _ _ => ⟨rfl, rfl⟩) us hu') fun e w' ⟨r', ow', u, he, hp, hr⟩ => ?_
  obtain ⟨b, cs, h1, h2, h3, h4, h5, h6⟩ := hp.sat.chunk 0 _ rfl
  cases hr with
  | slice hb ho hl h0 _ =>
    obtain ⟨_, rfl, rfl⟩ := h0 rfl
    have eb : b = _ := Option.some.inj (h1.symm.trans hb)
    subst eb
    have hlen : (row.map Value.string).length = row.length := List.length_map ..
    rw [hlen] at h4 h5
    refine ⟨b, _, cs, he, hp.frame.old, ?_, h3, ?_, hl, h5, h6⟩
    · refine Nat.le_of_not_lt fun q => ?_
      have := (hp.frame.keep b q rfl).1
      rw [h2] at this; cases this
    · have key : ∀ (row : List ByteArray) (l : List Value), RelL r' (row.map Value.string) l → l = row.map Value.string := by
        intro row
        induction row with
        | nil => intro l h; cases h; rfl
        | cons a row ih => intro l h; cases h with | cons x t => cases x; rw [ih _ t]; rfl
      exact key row _ h4
theorem rsplit_makes {φ : World → Prop} (cb : UInt8) (s : ByteArray) (hs : s.data.toList.length ≤ 4294967280) : MakesW Tryz.prog φ 13 [.string s, .int .u8 cb.toNat] (cutS cb s) := by
  refine makes_of_does (c1 := 4) ?_ rfl
  have m := rs_mid (s := s) (cb := cb) hs (h0 := [(0, .cells [.string ⟨⟨[]⟩⟩] 9)]) (fin := cutS cb s) s.data.toList.length 0 [] [] (by omega) (by simp) (by simp) (by
    rw [List.drop_zero, List.nil_append, ref_split]; rfl)
  have R : RenTo [(1, 0)] 1 4 [(0, .cells [.string ⟨⟨[]⟩⟩] 9)] (mkT 40 0 [(0, .string s), (1, .int .u8 cb.toNat), (5, .slice (some ⟨0, 0, none⟩) 1 0), (6, .int .i64 0)]) (rsH (([] ++ [([] : List UInt8)]).map mkB)) (rsT s cb.toNat (([] ++ [([] : List UInt8)]).map mkB) 0) :=
    entry_of (l := [(0, .string s), (1, .int .u8 cb.toNat), (5, .slice (some ⟨1, 0, none⟩) 1 0), (6, .int .i64 0)]) (len := 40) [(0, false)] (L := []) (by kernel_rfl) vcs_nil
  exact rs_call (does_of_mid (by decide) (by decide) (by decide) R m)
end Go.Proofs.YtkmicbhnfochjaaGreatDoor

namespace Go.Proofs.YtkmicbhnfochjaaGreatDoor
open Go Go.Sx Go.Eng
def shQ (_ : Int) (ps ks : List ByteArray) : Prop := okP ps ∧ ks.length ≤ 5
def shG (x : Int) (ps ks : List ByteArray) : Value := .bool (shapeB befB x ps ks)
def onSplit : List Value → Option (Bool × List ByteArray)
  | [.string s, .string ⟨⟨[c]⟩⟩] => some (Nat.ble s.data.toList.length 4294967280, cutS c s)
  | _ => none
def onRsplit : List Value → Option (Bool × List ByteArray)
  | [.string s, .int .u8 (.ofNat n)] => some (Nat.ble s.data.toList.length 4294967280 && Nat.ble n 255, cutS (UInt8.ofNat n) s)
  | _ => none
def onLim : List Value → Option (Bool × Value)
  | [.agg ⟨[.int .i64 a, .int .i64 b, .int .i64 c, .int .i64 d, .int .i64 e, .int .i64 g]⟩] => some (true, .bool (rightB a b c d e g))
  | _ => none
noncomputable def conE4 : Contracts := addK (addK (addM (addM (addR2 conE3 16 shQ shG) 24 glob onSplit) 13 glob onRsplit) 29 onLim) 36 onLim
theorem conE4_holds : Holds Tryz.prog conE4 := by
  refine ((((conE3_holds.addR2 ?_ ?_).addM ?_).addM ?_).addK ?_).addK ?_
  · rintro x ps ks ⟨h2, h3⟩
    exact shape_does h2 h3 (by omega)
  · intro x ps ks; rfl
  · intro xs b v h hb
    unfold onSplit at h
    split at h
    · cases h; exact split_makes _ _ (Nat.le_of_ble_eq_true hb)
    · cases h
  · intro xs b v h hb
    unfold onRsplit at h
    split at h
    · rename_i s n
      cases h
      rw [Bool.and_eq_true] at hb
      have h2 := Nat.le_of_ble_eq_true hb.2
      have e : ((UInt8.ofNat n).toNat : Int) = Int.ofNat n := by
        rw [UInt8.toNat_ofNat']
        show ((n % 2 ^ 8 : Nat) : Int) = (n : Int)
        rw [Nat.mod_eq_of_lt (by omega)]
      rw [← e]
      exact rsplit_makes _ _ (Nat.le_of_ble_eq_true hb.1)
    · cases h
  · intro xs b v h hb
    unfold onLim at h
    split at h
    · cases h; exact right29 _ _ _ _ _ _
    · cases h
  · intro xs b v h hb
    unfold onLim at h
    split at h
    · cases h; exact right36 _ _ _ _ _ _
    · cases h
end Go.Proofs.YtkmicbhnfochjaaGreatDoor

namespace Go.Proofs.YtkmicbhnfochjaaGreatDoor
open Go Go.Sx Go.Eng
/-- limits' loop. -/
noncomputable def lic : Code := subC [1, 1, 0, 1, 0, 0] (bodyC 15)
def ints (ns : List Int) : List Value := ns.map fun n => .int .i64 n
def z6 : List Value := [.int .i64 0, .int .i64 0, .int .i64 0, .int .i64 0, .int .i64 0, .int .i64 0]
def liH (ps : List ByteArray) (ns : List Int) : Heap := [(0, .cells (ps.map Value.string) 9), (1, .cells z6 30), (2, .cells (ints ns) 3)]
def liH0 (ps : List ByteArray) : Heap := [(0, .cells (ps.map Value.string) 9), (1, .cells z6 30)]
noncomputable def liT (ps : List ByteArray) (m : Nat) (j : Nat) : List Value := mkT 62 0 [(0, .slice (some ⟨0, 0, none⟩) ps.length 1), (2, .pointer (some ⟨1, 0, none⟩)), (4, .slice (some ⟨2, 0, none⟩) m 0), (5, .int .i64 j)]
noncomputable def liT0 (ps : List ByteArray) (j : Nat) : List Value := mkT 62 0 [(0, .slice (some ⟨0, 0, none⟩) ps.length 1), (2, .pointer (some ⟨1, 0, none⟩)), (4, .slice none 0 0), (5, .int .i64 j)]
def limZ : Value := .tuple ⟨[.agg ⟨z6⟩, .bool false]⟩
theorem cover_ints {ns : List Int} {vs : List Value} {nm : Nat → Option Nat} (h : vs = ints ns) : Cover (ints ns) (vs.map (renV nm 9)) := by
  subst h
  have : (ints ns).map (renV nm 9) = ints ns := by
    unfold ints
    rw [List.map_map]
    exact List.map_congr_left fun _ _ => rfl
  rw [this]
  exact Cover.refl _
set_option maxRecDepth 100000 in
theorem lr_r {ps : List ByteArray} {ns : List Int} {j : Nat} (h0 : (decide ((↑j : Int) < (↑ps.length : Int))) = true) (h1 : (decide ((0 : Int) ≤ (↑j : Int) ∧ (↑j : Int) < (↑ps.length : Int))) = true) (h2 : ((ps.getD j default).data.toList.length.ble (4294967295 : Nat)) = true) (h3 : (!numO (ps.getD j default)) = true)  : Sx.Ends Tryz.prog 2 3 20 (liH ps ns) lic (liT ps ns.length j) .ret (liH0 ps) (mkT 62 0 [(2, .pointer (some ⟨1, 0, none⟩)), (3, .bool false)]) :=
  ends_of mixed conE4_holds [] [(0, true), (1, false)] (d := [(0, .br true), (1, .br true), (2, .cell (.tuple ⟨[Value.string (ps.getD j default)]⟩)), (3, .br true), (4, .br true)]) (n := 600) (c2 := 3) (L' := [.p (Cover (ps.map Value.string) ((ps.map Value.string).map (renV (nameOf [] 2 20) 9)))]) (L := [.b ((!numO (ps.getD j default)) == true), .b ((ps.getD j default).data.toList.length.ble (4294967295 : Nat)), .p (List.take (1 : Nat) (List.drop ((0 : Nat) + j * (1 : Nat)) (List.map Value.string ps)) = [Value.string (ps.getD j default)] ∧ [Value.string (ps.getD j default)].length = (1 : Nat)), .b (decide ((0 : Int) ≤ (↑j : Int) ∧ (↑j : Int) < (↑ps.length : Int))), .b ((decide ((↑j : Int) < (↑ps.length : Int))) == true)]) (by kernel_rfl) rfl rfl (vcs_cons cover_str vcs_nil) (vcs_cons (vc_b h3) (vcs_cons (vc_c h2) (vcs_cons ((rd_map1 (by omega) (by simp only [decide_eq_true_eq, decide_eq_false_iff_not] at *; omega))) (vcs_cons (vc_c h1) (vcs_cons (vc_b h0) vcs_nil)))))
set_option maxRecDepth 100000 in
theorem lr_s {ps : List ByteArray} {ns : List Int} {j : Nat} (h0 : (decide ((↑j : Int) < (↑ps.length : Int))) = true) (h1 : (decide ((0 : Int) ≤ (↑j : Int) ∧ (↑j : Int) < (↑ps.length : Int))) = true) (h2 : ((ps.getD j default).data.toList.length.ble (4294967295 : Nat)) = true) (h3 : (!numO (ps.getD j default)) = false) (h4 : (bigOk (ns.length + (1 : Nat)) (8 : Nat)) = true)  : Sx.Goes Tryz.prog 2 3 20 (liH ps ns) lic (liT ps ns.length j) (liH ps (ns ++ [(numN (ps.getD j default))])) (mkT 62 0 [(0, .slice (some ⟨0, 0, none⟩) ps.length 1), (2, .pointer (some ⟨1, 0, none⟩)), (4, .slice (some ⟨2, 0, none⟩) (ns.length + 1) 0), (5, .int .i64 (IntKind.i64.wrap ((j : Int) + 1)))]) :=
  goes_of mixed conE4_holds [(2, 4)] [(0, true), (1, false), (4, true)] (d := [(0, .br true), (1, .br true), (2, .cell (.tuple ⟨[Value.string (ps.getD j default)]⟩)), (3, .br true), (4, .br false), (7, .cell (.tuple ⟨ints ns⟩)), (8, .br true)]) (n := 600) (c2 := 5) (L' := [.p (Cover (ps.map Value.string) ((ps.map Value.string).map (renV (nameOf [(2, 4)] 2 20) 9))), .p (Cover (ints (ns ++ [(numN (ps.getD j default))])) ((ints ns ++ [Value.int .i64 (numN (ps.getD j default))]).map (renV (nameOf [(2, 4)] 2 20) 9)))]) (L := [.b (bigOk (ns.length + (1 : Nat)) (8 : Nat)), .p (List.take (ns.length * (1 : Nat)) (List.drop (0 : Nat) (ints ns)) = ints ns ∧ (ints ns).length = ns.length * (1 : Nat)), .b ((!numO (ps.getD j default)) == false), .b ((ps.getD j default).data.toList.length.ble (4294967295 : Nat)), .p (List.take (1 : Nat) (List.drop ((0 : Nat) + j * (1 : Nat)) (List.map Value.string ps)) = [Value.string (ps.getD j default)] ∧ [Value.string (ps.getD j default)].length = (1 : Nat)), .b (decide ((0 : Int) ≤ (↑j : Int) ∧ (↑j : Int) < (↑ps.length : Int))), .b ((decide ((↑j : Int) < (↑ps.length : Int))) == true)]) (by kernel_rfl) rfl rfl (vcs_cons cover_str (vcs_cons (cover_ints (by simp [ints])) vcs_nil)) (vcs_cons (vc_c h4) (vcs_cons (⟨by rw [List.drop_zero]; exact List.take_of_length_le (by simp [ints]), by simp [ints]⟩) (vcs_cons (vc_b h3) (vcs_cons (vc_c h2) (vcs_cons ((rd_map1 (by omega) (by simp only [decide_eq_true_eq, decide_eq_false_iff_not] at *; omega))) (vcs_cons (vc_c h1) (vcs_cons (vc_b h0) vcs_nil)))))))
set_option maxRecDepth 100000 in
theorem lr_e {ps : List ByteArray} {ns : List Int} {j : Nat} (h0 : (decide ((↑j : Int) < (↑ps.length : Int))) = false)  : Sx.Ends Tryz.prog 2 3 20 (liH ps ns) lic (liT ps ns.length j) (.exit 0) (liH0 ps) (mkT 62 0 [(0, .slice (some ⟨0, 0, none⟩) ps.length 1), (2, .pointer (some ⟨1, 0, none⟩))]) :=
  ends_of mixed conE4_holds [] [(0, true), (1, false)] (d := [(0, .br false)]) (n := 600) (c2 := 3) (L' := [.p (Cover (ps.map Value.string) ((ps.map Value.string).map (renV (nameOf [] 2 20) 9)))]) (L := [.b ((decide ((↑j : Int) < (↑ps.length : Int))) == false)]) (by kernel_rfl) rfl rfl (vcs_cons cover_str vcs_nil) (vcs_cons (vc_b h0) vcs_nil)
set_option maxRecDepth 100000 in
theorem l0_r {ps : List ByteArray} {j : Nat} (h0 : (decide ((↑j : Int) < (↑ps.length : Int))) = true) (h1 : (decide ((0 : Int) ≤ (↑j : Int) ∧ (↑j : Int) < (↑ps.length : Int))) = true) (h2 : ((ps.getD j default).data.toList.length.ble (4294967295 : Nat)) = true) (h3 : (!numO (ps.getD j default)) = true)  : Sx.Ends Tryz.prog 2 3 20 (liH0 ps) lic (liT0 ps j) .ret (liH0 ps) (mkT 62 0 [(2, .pointer (some ⟨1, 0, none⟩)), (3, .bool false)]) :=
  ends_of mixed conE4_holds [] [(0, true), (1, false)] (d := [(0, .br true), (1, .br true), (2, .cell (.tuple ⟨[Value.string (ps.getD j default)]⟩)), (3, .br true), (4, .br true)]) (n := 600) (c2 := 3) (L' := [.p (Cover (ps.map Value.string) ((ps.map Value.string).map (renV (nameOf [] 2 20) 9)))]) (L := [.b ((!numO (ps.getD j default)) == true), .b ((ps.getD j default).data.toList.length.ble (4294967295 : Nat)), .p (List.take (1 : Nat) (List.drop ((0 : Nat) + j * (1 : Nat)) (List.map Value.string ps)) = [Value.string (ps.getD j default)] ∧ [Value.string (ps.getD j default)].length = (1 : Nat)), .b (decide ((0 : Int) ≤ (↑j : Int) ∧ (↑j : Int) < (↑ps.length : Int))), .b ((decide ((↑j : Int) < (↑ps.length : Int))) == true)]) (by kernel_rfl) rfl rfl (vcs_cons cover_str vcs_nil) (vcs_cons (vc_b h3) (vcs_cons (vc_c h2) (vcs_cons ((rd_map1 (by omega) (by simp only [decide_eq_true_eq, decide_eq_false_iff_not] at *; omega))) (vcs_cons (vc_c h1) (vcs_cons (vc_b h0) vcs_nil)))))
set_option maxRecDepth 100000 in
theorem l0_s {ps : List ByteArray} {j : Nat} (h0 : (decide ((↑j : Int) < (↑ps.length : Int))) = true) (h1 : (decide ((0 : Int) ≤ (↑j : Int) ∧ (↑j : Int) < (↑ps.length : Int))) = true) (h2 : ((ps.getD j default).data.toList.length.ble (4294967295 : Nat)) = true) (h3 : (!numO (ps.getD j default)) = false)  : Sx.Goes Tryz.prog 2 3 20 (liH0 ps) lic (liT0 ps j) (liH ps [(numN (ps.getD j default))]) (mkT 62 0 [(0, .slice (some ⟨0, 0, none⟩) ps.length 1), (2, .pointer (some ⟨1, 0, none⟩)), (4, .slice (some ⟨2, 0, none⟩) 1 0), (5, .int .i64 (IntKind.i64.wrap ((j : Int) + 1)))]) :=
  goes_of mixed conE4_holds [(2, 4)] [(0, true), (1, false), (4, false)] (d := [(0, .br true), (1, .br true), (2, .cell (.tuple ⟨[Value.string (ps.getD j default)]⟩)), (3, .br true), (4, .br false)]) (n := 600) (c2 := 5) (L' := [.p (Cover (ps.map Value.string) ((ps.map Value.string).map (renV (nameOf [(2, 4)] 2 20) 9)))]) (L := [.b ((!numO (ps.getD j default)) == false), .b ((ps.getD j default).data.toList.length.ble (4294967295 : Nat)), .p (List.take (1 : Nat) (List.drop ((0 : Nat) + j * (1 : Nat)) (List.map Value.string ps)) = [Value.string (ps.getD j default)] ∧ [Value.string (ps.getD j default)].length = (1 : Nat)), .b (decide ((0 : Int) ≤ (↑j : Int) ∧ (↑j : Int) < (↑ps.length : Int))), .b ((decide ((↑j : Int) < (↑ps.length : Int))) == true)]) (by kernel_rfl) rfl rfl (vcs_cons cover_str vcs_nil) (vcs_cons (vc_b h3) (vcs_cons (vc_c h2) (vcs_cons ((rd_map1 (by omega) (by simp only [decide_eq_true_eq, decide_eq_false_iff_not] at *; omega))) (vcs_cons (vc_c h1) (vcs_cons (vc_b h0) vcs_nil)))))
set_option maxRecDepth 100000 in
theorem l0_e {ps : List ByteArray} {j : Nat} (h0 : (decide ((↑j : Int) < (↑ps.length : Int))) = false)  : Sx.Ends Tryz.prog 2 3 20 (liH0 ps) lic (liT0 ps j) (.exit 0) (liH0 ps) (mkT 62 0 [(0, .slice (some ⟨0, 0, none⟩) ps.length 1), (2, .pointer (some ⟨1, 0, none⟩))]) :=
  ends_of mixed conE4_holds [] [(0, true), (1, false)] (d := [(0, .br false)]) (n := 600) (c2 := 3) (L' := [.p (Cover (ps.map Value.string) ((ps.map Value.string).map (renV (nameOf [] 2 20) 9)))]) (L := [.b ((decide ((↑j : Int) < (↑ps.length : Int))) == false)]) (by kernel_rfl) rfl rfl (vcs_cons cover_str vcs_nil) (vcs_cons (vc_b h0) vcs_nil)
set_option maxRecDepth 100000 in
theorem lcx_w0 {ps : List ByteArray} (h0 : ((↑ps.length : Int) != (7 : Int)) = true) (hl : Does Tryz.prog 2 (liH0 ps) 20 (liH0 ps) (.inLoop lic (liT0 ps 1)) (.out (.exit 0) (mkT 62 0 [(0, .slice (some ⟨0, 0, none⟩) ps.length 1), (2, .pointer (some ⟨1, 0, none⟩))]))) : Does Tryz.prog 1 (rowH1 ps) 20 (rowH1 ps) (.call 15 [.slice (some ⟨0, 0, none⟩) ps.length 1]) (.val (limZ)) :=
  call_of mixed conE4_holds [] [(0, true)] (d := [(0, .loop [0, 2, 4, 5] [0, 1] 20 (liH0 ps) (.exit 0) (mkT 62 0 [(0, .slice (some ⟨0, 0, none⟩) ps.length 1), (2, .pointer (some ⟨1, 0, none⟩))])), (1, .br true), (2, .br true), (3, .br true), (4, .br true), (5, .br true)]) (n := 600) (c2 := 20) (L' := [.p (Cover (ps.map Value.string) ((ps.map Value.string).map (renV (nameOf [] 1 20) 9)))]) (L := [.b (((↑ps.length : Int) != (7 : Int)) == true), .b (((↑ps.length : Int) != (7 : Int)) == true), .b (((↑ps.length : Int) != (7 : Int)) == true), .b (((↑ps.length : Int) != (7 : Int)) == true), .b (((↑ps.length : Int) != (7 : Int)) == true), .p (Does Tryz.prog 2 (liH0 ps) 20 (liH0 ps) (.inLoop lic (liT0 ps 1)) (.out (.exit 0) (mkT 62 0 [(0, .slice (some ⟨0, 0, none⟩) ps.length 1), (2, .pointer (some ⟨1, 0, none⟩))])))]) (by kernel_rfl) rfl rfl (vcs_cons cover_str vcs_nil) (vcs_cons (vc_b h0) (vcs_cons (vc_b h0) (vcs_cons (vc_b h0) (vcs_cons (vc_b h0) (vcs_cons (vc_b h0) (vcs_cons (hl) vcs_nil))))))
set_option maxRecDepth 100000 in
theorem lcx_w1 {ps : List ByteArray} (h0 : ((↑ps.length : Int) != (7 : Int)) = false) (h1 : (decide ((0 : Int) ≤ (0 : Int) ∧ (0 : Int) < (↑ps.length : Int))) = true) (h2 : (!strEq (ps.getD (0 : Nat) default) { data := #[(108 : UInt8), (105 : UInt8), (109 : UInt8), (105 : UInt8), (116 : UInt8), (115 : UInt8)] }) = true) (hl : Does Tryz.prog 2 (liH0 ps) 20 (liH0 ps) (.inLoop lic (liT0 ps 1)) (.out (.exit 0) (mkT 62 0 [(0, .slice (some ⟨0, 0, none⟩) ps.length 1), (2, .pointer (some ⟨1, 0, none⟩))]))) : Does Tryz.prog 1 (rowH1 ps) 20 (rowH1 ps) (.call 15 [.slice (some ⟨0, 0, none⟩) ps.length 1]) (.val (limZ)) :=
  call_of mixed conE4_holds [] [(0, true)] (d := [(0, .loop [0, 2, 4, 5] [0, 1] 20 (liH0 ps) (.exit 0) (mkT 62 0 [(0, .slice (some ⟨0, 0, none⟩) ps.length 1), (2, .pointer (some ⟨1, 0, none⟩))])), (1, .br false), (2, .br false), (3, .br true), (4, .br false), (5, .cell (.tuple ⟨[Value.string (ps.getD (0 : Nat) default)]⟩)), (6, .br false), (7, .br false), (8, .br true)]) (n := 600) (c2 := 20) (L' := [.p (Cover (ps.map Value.string) ((ps.map Value.string).map (renV (nameOf [] 1 20) 9)))]) (L := [.b ((!strEq (ps.getD (0 : Nat) default) { data := #[(108 : UInt8), (105 : UInt8), (109 : UInt8), (105 : UInt8), (116 : UInt8), (115 : UInt8)] }) == true), .b (((↑ps.length : Int) != (7 : Int)) == false), .b (((↑ps.length : Int) != (7 : Int)) == false), .p (List.take (1 : Nat) (List.drop (0 : Nat) (List.map Value.string ps)) = [Value.string (ps.getD (0 : Nat) default)] ∧ [Value.string (ps.getD (0 : Nat) default)].length = (1 : Nat)), .b (((↑ps.length : Int) != (7 : Int)) == false), .b (decide ((0 : Int) ≤ (0 : Int) ∧ (0 : Int) < (↑ps.length : Int))), .b (((↑ps.length : Int) != (7 : Int)) == false), .b (((↑ps.length : Int) != (7 : Int)) == false), .p (Does Tryz.prog 2 (liH0 ps) 20 (liH0 ps) (.inLoop lic (liT0 ps 1)) (.out (.exit 0) (mkT 62 0 [(0, .slice (some ⟨0, 0, none⟩) ps.length 1), (2, .pointer (some ⟨1, 0, none⟩))])))]) (by kernel_rfl) rfl rfl (vcs_cons cover_str vcs_nil) (vcs_cons (vc_b h2) (vcs_cons (vc_b h0) (vcs_cons (vc_b h0) (vcs_cons ((rd_map1 (by omega) (by simp only [decide_eq_true_eq, decide_eq_false_iff_not] at *; omega))) (vcs_cons (vc_b h0) (vcs_cons (vc_c h1) (vcs_cons (vc_b h0) (vcs_cons (vc_b h0) (vcs_cons (hl) vcs_nil)))))))))
set_option maxRecDepth 100000 in
theorem lcr_w0 {ps : List ByteArray}  (hl : Does Tryz.prog 2 (liH0 ps) 20 (liH0 ps) (.inLoop lic (liT0 ps 1)) (.out .ret (mkT 62 0 [(2, .pointer (some ⟨1, 0, none⟩)), (3, .bool false)]))) : Does Tryz.prog 1 (rowH1 ps) 20 (rowH1 ps) (.call 15 [.slice (some ⟨0, 0, none⟩) ps.length 1]) (.val (limZ)) :=
  call_of mixed conE4_holds [] [(0, true)] (d := [(0, .loop [0, 2, 4, 5] [0, 1] 20 (liH0 ps) .ret (mkT 62 0 [(2, .pointer (some ⟨1, 0, none⟩)), (3, .bool false)]))]) (n := 600) (c2 := 20) (L' := [.p (Cover (ps.map Value.string) ((ps.map Value.string).map (renV (nameOf [] 1 20) 9)))]) (L := [.p (Does Tryz.prog 2 (liH0 ps) 20 (liH0 ps) (.inLoop lic (liT0 ps 1)) (.out .ret (mkT 62 0 [(2, .pointer (some ⟨1, 0, none⟩)), (3, .bool false)])))]) (by kernel_rfl) rfl rfl (vcs_cons cover_str vcs_nil) (vcs_cons (hl) vcs_nil)
set_option maxRecDepth 100000 in
theorem li_w0 {a b c d e f g : ByteArray} (h0 : (b.data.toList.length.ble (4294967295 : Nat)) = true) (h1 : (!numO b) = true)  : Does Tryz.prog 1 (rowH1 [a, b, c, d, e, f, g]) 20 (rowH1 [a, b, c, d, e, f, g]) (.call 15 [.slice (some ⟨0, 0, none⟩) 7 1]) (.val (limZ)) :=
  call_of mixed conE4_holds [] [(0, false)] (d := [(4, .br true), (5, .br true)]) (n := 600) (c2 := 2) (L' := []) (L := [.b ((!numO b) == true), .b (b.data.toList.length.ble (4294967295 : Nat))]) (by kernel_rfl) rfl rfl (vcs_nil) (vcs_cons (vc_b h1) (vcs_cons (vc_c h0) vcs_nil))
set_option maxRecDepth 100000 in
theorem li_w1 {a b c d e f g : ByteArray} (h0 : (b.data.toList.length.ble (4294967295 : Nat)) = true) (h1 : (!numO b) = false) (h2 : (c.data.toList.length.ble (4294967295 : Nat)) = true) (h3 : (!numO c) = true)  : Does Tryz.prog 1 (rowH1 [a, b, c, d, e, f, g]) 20 (rowH1 [a, b, c, d, e, f, g]) (.call 15 [.slice (some ⟨0, 0, none⟩) 7 1]) (.val (limZ)) :=
  call_of mixed conE4_holds [] [(0, false)] (d := [(4, .br true), (5, .br false), (13, .br true), (14, .br true)]) (n := 600) (c2 := 4) (L' := []) (L := [.b ((!numO c) == true), .b (c.data.toList.length.ble (4294967295 : Nat)), .b ((!numO b) == false), .b (b.data.toList.length.ble (4294967295 : Nat))]) (by kernel_rfl) rfl rfl (vcs_nil) (vcs_cons (vc_b h3) (vcs_cons (vc_c h2) (vcs_cons (vc_b h1) (vcs_cons (vc_c h0) vcs_nil))))
set_option maxRecDepth 100000 in
theorem li_w2 {a b c d e f g : ByteArray} (h0 : (b.data.toList.length.ble (4294967295 : Nat)) = true) (h1 : (!numO b) = false) (h2 : (c.data.toList.length.ble (4294967295 : Nat)) = true) (h3 : (!numO c) = false) (h4 : (d.data.toList.length.ble (4294967295 : Nat)) = true) (h5 : (!numO d) = true)  : Does Tryz.prog 1 (rowH1 [a, b, c, d, e, f, g]) 20 (rowH1 [a, b, c, d, e, f, g]) (.call 15 [.slice (some ⟨0, 0, none⟩) 7 1]) (.val (limZ)) :=
  call_of mixed conE4_holds [] [(0, false)] (d := [(4, .br true), (5, .br false), (13, .br true), (14, .br false), (23, .br true), (24, .br true)]) (n := 600) (c2 := 6) (L' := []) (L := [.b ((!numO d) == true), .b (d.data.toList.length.ble (4294967295 : Nat)), .b ((!numO c) == false), .b (c.data.toList.length.ble (4294967295 : Nat)), .b ((!numO b) == false), .b (b.data.toList.length.ble (4294967295 : Nat))]) (by kernel_rfl) rfl rfl (vcs_nil) (vcs_cons (vc_b h5) (vcs_cons (vc_c h4) (vcs_cons (vc_b h3) (vcs_cons (vc_c h2) (vcs_cons (vc_b h1) (vcs_cons (vc_c h0) vcs_nil))))))
set_option maxRecDepth 100000 in
theorem li_w3 {a b c d e f g : ByteArray} (h0 : (b.data.toList.length.ble (4294967295 : Nat)) = true) (h1 : (!numO b) = false) (h2 : (c.data.toList.length.ble (4294967295 : Nat)) = true) (h3 : (!numO c) = false) (h4 : (d.data.toList.length.ble (4294967295 : Nat)) = true) (h5 : (!numO d) = false) (h6 : (e.data.toList.length.ble (4294967295 : Nat)) = true) (h7 : (!numO e) = true)  : Does Tryz.prog 1 (rowH1 [a, b, c, d, e, f, g]) 20 (rowH1 [a, b, c, d, e, f, g]) (.call 15 [.slice (some ⟨0, 0, none⟩) 7 1]) (.val (limZ)) :=
  call_of mixed conE4_holds [] [(0, false)] (d := [(4, .br true), (5, .br false), (13, .br true), (14, .br false), (23, .br true), (24, .br false), (33, .br true), (34, .br true)]) (n := 600) (c2 := 8) (L' := []) (L := [.b ((!numO e) == true), .b (e.data.toList.length.ble (4294967295 : Nat)), .b ((!numO d) == false), .b (d.data.toList.length.ble (4294967295 : Nat)), .b ((!numO c) == false), .b (c.data.toList.length.ble (4294967295 : Nat)), .b ((!numO b) == false), .b (b.data.toList.length.ble (4294967295 : Nat))]) (by kernel_rfl) rfl rfl (vcs_nil) (vcs_cons (vc_b h7) (vcs_cons (vc_c h6) (vcs_cons (vc_b h5) (vcs_cons (vc_c h4) (vcs_cons (vc_b h3) (vcs_cons (vc_c h2) (vcs_cons (vc_b h1) (vcs_cons (vc_c h0) vcs_nil))))))))
set_option maxRecDepth 100000 in
theorem li_w4 {a b c d e f g : ByteArray} (h0 : (b.data.toList.length.ble (4294967295 : Nat)) = true) (h1 : (!numO b) = false) (h2 : (c.data.toList.length.ble (4294967295 : Nat)) = true) (h3 : (!numO c) = false) (h4 : (d.data.toList.length.ble (4294967295 : Nat)) = true) (h5 : (!numO d) = false) (h6 : (e.data.toList.length.ble (4294967295 : Nat)) = true) (h7 : (!numO e) = false) (h8 : (f.data.toList.length.ble (4294967295 : Nat)) = true) (h9 : (!numO f) = true)  : Does Tryz.prog 1 (rowH1 [a, b, c, d, e, f, g]) 20 (rowH1 [a, b, c, d, e, f, g]) (.call 15 [.slice (some ⟨0, 0, none⟩) 7 1]) (.val (limZ)) :=
  call_of mixed conE4_holds [] [(0, false)] (d := [(4, .br true), (5, .br false), (13, .br true), (14, .br false), (23, .br true), (24, .br false), (33, .br true), (34, .br false), (43, .br true), (44, .br true)]) (n := 600) (c2 := 10) (L' := []) (L := [.b ((!numO f) == true), .b (f.data.toList.length.ble (4294967295 : Nat)), .b ((!numO e) == false), .b (e.data.toList.length.ble (4294967295 : Nat)), .b ((!numO d) == false), .b (d.data.toList.length.ble (4294967295 : Nat)), .b ((!numO c) == false), .b (c.data.toList.length.ble (4294967295 : Nat)), .b ((!numO b) == false), .b (b.data.toList.length.ble (4294967295 : Nat))]) (by kernel_rfl) rfl rfl (vcs_nil) (vcs_cons (vc_b h9) (vcs_cons (vc_c h8) (vcs_cons (vc_b h7) (vcs_cons (vc_c h6) (vcs_cons (vc_b h5) (vcs_cons (vc_c h4) (vcs_cons (vc_b h3) (vcs_cons (vc_c h2) (vcs_cons (vc_b h1) (vcs_cons (vc_c h0) vcs_nil))))))))))
set_option maxRecDepth 100000 in
theorem li_w5 {a b c d e f g : ByteArray} (h0 : (b.data.toList.length.ble (4294967295 : Nat)) = true) (h1 : (!numO b) = false) (h2 : (c.data.toList.length.ble (4294967295 : Nat)) = true) (h3 : (!numO c) = false) (h4 : (d.data.toList.length.ble (4294967295 : Nat)) = true) (h5 : (!numO d) = false) (h6 : (e.data.toList.length.ble (4294967295 : Nat)) = true) (h7 : (!numO e) = false) (h8 : (f.data.toList.length.ble (4294967295 : Nat)) = true) (h9 : (!numO f) = false) (h10 : (g.data.toList.length.ble (4294967295 : Nat)) = true) (h11 : (!numO g) = true)  : Does Tryz.prog 1 (rowH1 [a, b, c, d, e, f, g]) 20 (rowH1 [a, b, c, d, e, f, g]) (.call 15 [.slice (some ⟨0, 0, none⟩) 7 1]) (.val (limZ)) :=
  call_of mixed conE4_holds [] [(0, false)] (d := [(4, .br true), (5, .br false), (13, .br true), (14, .br false), (23, .br true), (24, .br false), (33, .br true), (34, .br false), (43, .br true), (44, .br false), (53, .br true), (54, .br true)]) (n := 600) (c2 := 12) (L' := []) (L := [.b ((!numO g) == true), .b (g.data.toList.length.ble (4294967295 : Nat)), .b ((!numO f) == false), .b (f.data.toList.length.ble (4294967295 : Nat)), .b ((!numO e) == false), .b (e.data.toList.length.ble (4294967295 : Nat)), .b ((!numO d) == false), .b (d.data.toList.length.ble (4294967295 : Nat)), .b ((!numO c) == false), .b (c.data.toList.length.ble (4294967295 : Nat)), .b ((!numO b) == false), .b (b.data.toList.length.ble (4294967295 : Nat))]) (by kernel_rfl) rfl rfl (vcs_nil) (vcs_cons (vc_b h11) (vcs_cons (vc_c h10) (vcs_cons (vc_b h9) (vcs_cons (vc_c h8) (vcs_cons (vc_b h7) (vcs_cons (vc_c h6) (vcs_cons (vc_b h5) (vcs_cons (vc_c h4) (vcs_cons (vc_b h3) (vcs_cons (vc_c h2) (vcs_cons (vc_b h1) (vcs_cons (vc_c h0) vcs_nil))))))))))))
set_option maxRecDepth 100000 in
theorem li_w6 {a b c d e f g : ByteArray} (h0 : (b.data.toList.length.ble (4294967295 : Nat)) = true) (h1 : (!numO b) = false) (h2 : (c.data.toList.length.ble (4294967295 : Nat)) = true) (h3 : (!numO c) = false) (h4 : (d.data.toList.length.ble (4294967295 : Nat)) = true) (h5 : (!numO d) = false) (h6 : (e.data.toList.length.ble (4294967295 : Nat)) = true) (h7 : (!numO e) = false) (h8 : (f.data.toList.length.ble (4294967295 : Nat)) = true) (h9 : (!numO f) = false) (h10 : (g.data.toList.length.ble (4294967295 : Nat)) = true) (h11 : (!numO g) = false) (h12 : (!strEq a { data := #[(108 : UInt8), (105 : UInt8), (109 : UInt8), (105 : UInt8), (116 : UInt8), (115 : UInt8)] }) = true)  : Does Tryz.prog 1 (rowH1 [a, b, c, d, e, f, g]) 20 (rowH1 [a, b, c, d, e, f, g]) (.call 15 [.slice (some ⟨0, 0, none⟩) 7 1]) (.val (limZ)) :=
  call_of mixed conE4_holds [] [(0, false)] (d := [(4, .br true), (5, .br false), (13, .br true), (14, .br false), (23, .br true), (24, .br false), (33, .br true), (34, .br false), (43, .br true), (44, .br false), (53, .br true), (54, .br false), (68, .br true)]) (n := 600) (c2 := 14) (L' := []) (L := [.b ((!strEq a { data := #[(108 : UInt8), (105 : UInt8), (109 : UInt8), (105 : UInt8), (116 : UInt8), (115 : UInt8)] }) == true), .b ((!numO g) == false), .b (g.data.toList.length.ble (4294967295 : Nat)), .b ((!numO f) == false), .b (f.data.toList.length.ble (4294967295 : Nat)), .b ((!numO e) == false), .b (e.data.toList.length.ble (4294967295 : Nat)), .b ((!numO d) == false), .b (d.data.toList.length.ble (4294967295 : Nat)), .b ((!numO c) == false), .b (c.data.toList.length.ble (4294967295 : Nat)), .b ((!numO b) == false), .b (b.data.toList.length.ble (4294967295 : Nat))]) (by kernel_rfl) rfl rfl (vcs_nil) (vcs_cons (vc_b h12) (vcs_cons (vc_b h11) (vcs_cons (vc_c h10) (vcs_cons (vc_b h9) (vcs_cons (vc_c h8) (vcs_cons (vc_b h7) (vcs_cons (vc_c h6) (vcs_cons (vc_b h5) (vcs_cons (vc_c h4) (vcs_cons (vc_b h3) (vcs_cons (vc_c h2) (vcs_cons (vc_b h1) (vcs_cons (vc_c h0) vcs_nil)))))))))))))
set_option maxRecDepth 100000 in
theorem li_w7 {a b c d e f g : ByteArray} (h0 : (b.data.toList.length.ble (4294967295 : Nat)) = true) (h1 : (!numO b) = false) (h2 : (c.data.toList.length.ble (4294967295 : Nat)) = true) (h3 : (!numO c) = false) (h4 : (d.data.toList.length.ble (4294967295 : Nat)) = true) (h5 : (!numO d) = false) (h6 : (e.data.toList.length.ble (4294967295 : Nat)) = true) (h7 : (!numO e) = false) (h8 : (f.data.toList.length.ble (4294967295 : Nat)) = true) (h9 : (!numO f) = false) (h10 : (g.data.toList.length.ble (4294967295 : Nat)) = true) (h11 : (!numO g) = false) (h12 : (!strEq a { data := #[(108 : UInt8), (105 : UInt8), (109 : UInt8), (105 : UInt8), (116 : UInt8), (115 : UInt8)] }) = false)  : Does Tryz.prog 1 (rowH1 [a, b, c, d, e, f, g]) 20 (rowH1 [a, b, c, d, e, f, g]) (.call 15 [.slice (some ⟨0, 0, none⟩) 7 1]) (.val (.tuple ⟨[.agg ⟨[.int .i64 (numN b), .int .i64 (numN c), .int .i64 (numN d), .int .i64 (numN e), .int .i64 (numN f), .int .i64 (numN g)]⟩, .bool (rightB (numN b) (numN c) (numN d) (numN e) (numN f) (numN g))]⟩)) :=
  call_of mixed conE4_holds [] [(0, false)] (d := [(4, .br true), (5, .br false), (13, .br true), (14, .br false), (23, .br true), (24, .br false), (33, .br true), (34, .br false), (43, .br true), (44, .br false), (53, .br true), (54, .br false), (68, .br false)]) (n := 600) (c2 := 15) (L' := []) (L := [.b ((!strEq a { data := #[(108 : UInt8), (105 : UInt8), (109 : UInt8), (105 : UInt8), (116 : UInt8), (115 : UInt8)] }) == false), .b ((!numO g) == false), .b (g.data.toList.length.ble (4294967295 : Nat)), .b ((!numO f) == false), .b (f.data.toList.length.ble (4294967295 : Nat)), .b ((!numO e) == false), .b (e.data.toList.length.ble (4294967295 : Nat)), .b ((!numO d) == false), .b (d.data.toList.length.ble (4294967295 : Nat)), .b ((!numO c) == false), .b (c.data.toList.length.ble (4294967295 : Nat)), .b ((!numO b) == false), .b (b.data.toList.length.ble (4294967295 : Nat))]) (by kernel_rfl) rfl rfl (vcs_nil) (vcs_cons (vc_b h12) (vcs_cons (vc_b h11) (vcs_cons (vc_c h10) (vcs_cons (vc_b h9) (vcs_cons (vc_c h8) (vcs_cons (vc_b h7) (vcs_cons (vc_c h6) (vcs_cons (vc_b h5) (vcs_cons (vc_c h4) (vcs_cons (vc_b h3) (vcs_cons (vc_c h2) (vcs_cons (vc_b h1) (vcs_cons (vc_c h0) vcs_nil)))))))))))))
end Go.Proofs.YtkmicbhnfochjaaGreatDoor

namespace Go.Proofs.YtkmicbhnfochjaaGreatDoor
open Go Go.Sx Go.Eng
/-- What the first line's reading gives. -/
def limV : List ByteArray → Value
  | [a, b, c, d, e, f, g] => bif numO b && (numO c && (numO d && (numO e && (numO f && (numO g && strEq a s_limits))))) then
      .tuple ⟨[.agg ⟨[.int .i64 (numN b), .int .i64 (numN c), .int .i64 (numN d), .int .i64 (numN e), .int .i64 (numN f), .int .i64 (numN g)]⟩, .bool (rightB (numN b) (numN c) (numN d) (numN e) (numN f) (numN g))]⟩
    else limZ
  | _ => limZ
theorem lr_mid {ps : List ByteArray} (hp : okP ps) {h0 : Heap} : ∀ (k j : Nat) (ns : List Int), j + k = ps.length → ns.length ≤ j →
    Mid Tryz.prog 2 h0 3 (liH ps ns) 20 (liH0 ps) lic (liT ps ns.length j) (.exit 0) (mkT 62 0 [(0, .slice (some ⟨0, 0, none⟩) ps.length 1), (2, .pointer (some ⟨1, 0, none⟩))]) ∨
    Mid Tryz.prog 2 h0 3 (liH ps ns) 20 (liH0 ps) lic (liT ps ns.length j) .ret (mkT 62 0 [(2, .pointer (some ⟨1, 0, none⟩)), (3, .bool false)]) := by
  have hps := hp.1
  intro k
  induction k with
  | zero =>
    intro j ns hj hn
    exact .inl ((lr_e (decide_eq_false (by omega))).mid (by simp) (by decide))
  | succ k ih =>
    intro j ns hj hn
    have hl : j < ps.length := by omega
    have b0 : decide ((j : Int) < (ps.length : Int)) = true := decide_eq_true (by omega)
    have b1 : decide ((0 : Int) ≤ (j : Int) ∧ (j : Int) < (ps.length : Int)) = true := decide_eq_true (by omega)
    have b2 := okP_at hp hl
    cases hx : numO (ps.getD j default) with
    | false => exact .inr ((lr_r (ns := ns) b0 b1 b2 (not_f' hx)).mid (by simp) (by decide))
    | true =>
      have b3 : bigOk (ns.length + 1) 8 = true := Nat.ble_eq_true_of_le (by omega)
      have g := lr_s (ns := ns) b0 b1 b2 (not_t' hx) b3
      rw [wrap64 (by omega) (by omega)] at g
      have e2 : liT ps (ns ++ [numN (ps.getD j default)]).length (j + 1) = mkT 62 0 [(0, .slice (some ⟨0, 0, none⟩) ps.length 1), (2, .pointer (some ⟨1, 0, none⟩)), (4, .slice (some ⟨2, 0, none⟩) (ns.length + 1) 0), (5, .int .i64 ((j : Int) + 1))] := by
        unfold liT
        rw [List.length_append, List.length_singleton]
        rfl
      rcases ih (j + 1) (ns ++ [numN (ps.getD j default)]) (by omega) (by simp; omega) with q | q
      · rw [e2] at q; exact .inl (g.mid (by decide) (by decide) q)
      · rw [e2] at q; exact .inr (g.mid (by decide) (by decide) q)
theorem l0_mid {ps : List ByteArray} (hp : okP ps) {h0 : Heap} (h1 : 1 ≤ ps.length) :
    Mid Tryz.prog 2 h0 3 (liH0 ps) 20 (liH0 ps) lic (liT0 ps 1) (.exit 0) (mkT 62 0 [(0, .slice (some ⟨0, 0, none⟩) ps.length 1), (2, .pointer (some ⟨1, 0, none⟩))]) ∨
    Mid Tryz.prog 2 h0 3 (liH0 ps) 20 (liH0 ps) lic (liT0 ps 1) .ret (mkT 62 0 [(2, .pointer (some ⟨1, 0, none⟩)), (3, .bool false)]) := by
  have hps := hp.1
  by_cases hl : 1 < ps.length
  · have b0 : decide (((1 : Nat) : Int) < (ps.length : Int)) = true := decide_eq_true (by omega)
    have b1 : decide ((0 : Int) ≤ ((1 : Nat) : Int) ∧ ((1 : Nat) : Int) < (ps.length : Int)) = true := decide_eq_true (by omega)
    have b2 := okP_at hp hl
    cases hx : numO (ps.getD 1 default) with
    | false => exact .inr ((l0_r (j := 1) b0 b1 b2 (not_f' hx)).mid (by simp) (by decide))
    | true =>
      have g := l0_s (j := 1) b0 b1 b2 (not_t' hx)
      rw [wrap64 (by omega) (by omega)] at g
      rcases lr_mid hp (h0 := h0) (ps.length - 2) 2 [numN (ps.getD 1 default)] (by omega) (by simp) with q | q
      · exact .inl (g.mid (by decide) (by decide) q)
      · exact .inr (g.mid (by decide) (by decide) q)
  · exact .inl ((l0_e (j := 1) (decide_eq_false (by omega))).mid (by simp) (by decide))
theorem mid_up {ps : List ByteArray} {T : List Value} {e : SExit} {Tf : List Value} (h : Mid Tryz.prog 2 (liH0 ps) 3 (liH0 ps) 20 (liH0 ps) lic T e Tf) (R : RenTo [] 2 20 (liH0 ps) T (liH0 ps) T) : Does Tryz.prog 2 (liH0 ps) 20 (liH0 ps) (.inLoop lic T) (.out e Tf) :=
  does_of_mid (by decide) (by decide) (by decide) R h
theorem li_ren {ps : List ByteArray} : RenTo [] 2 20 (liH0 ps) (liT0 ps 1) (liH0 ps) (liT0 ps 1) :=
  entry_of (l := [(0, .slice (some ⟨0, 0, none⟩) ps.length 1), (2, .pointer (some ⟨1, 0, none⟩)), (4, .slice none 0 0), (5, .int .i64 1)]) (len := 62) [(0, true), (1, false)] (L := [.p (Cover (ps.map Value.string) ((ps.map Value.string).map (renV (nameOf [] 2 20) 9)))]) (by kernel_rfl) (vcs_cons cover_str vcs_nil)
theorem limits_short {ps : List ByteArray} (hp : okP ps) (h1 : 1 ≤ ps.length) (h7 : ps.length ≠ 7) : Does Tryz.prog 1 (rowH1 ps) 20 (rowH1 ps) (.call 15 [.slice (some ⟨0, 0, none⟩) ps.length 1]) (.val limZ) := by
  rcases l0_mid hp (h0 := liH0 ps) h1 with q | q
  · exact lcx_w0 (by simp; omega) (mid_up q li_ren)
  · exact lcr_w0 (mid_up q li_ren)
theorem limits_does {ps : List ByteArray} (hp : okP ps) (h1 : 1 ≤ ps.length) : Does Tryz.prog 1 (rowH1 ps) (1 + 19) (rowH1 ps) (.call 15 [.slice (some ⟨0, 0, none⟩) ps.length 1]) (.val (limV ps)) := by
  by_cases h7 : ps.length = 7
  · rcases ps with _ | ⟨a, _ | ⟨b, _ | ⟨c, _ | ⟨d, _ | ⟨e, _ | ⟨f, _ | ⟨g, _ | ⟨x, r⟩⟩⟩⟩⟩⟩⟩⟩
    any_goals (simp at h7; done)
    have k1 := okP_at hp (j := 1) (by simp)
    have k2 := okP_at hp (j := 2) (by simp)
    have k3 := okP_at hp (j := 3) (by simp)
    have k4 := okP_at hp (j := 4) (by simp)
    have k5 := okP_at hp (j := 5) (by simp)
    have k6 := okP_at hp (j := 6) (by simp)
    cases n0 : numO b with
    | false =>
      rw [show limV [a, b, c, d, e, f, g] = limZ by simp only [limV, n0, Bool.true_and, Bool.false_and, cond_false]]
      exact li_w0  k1 (not_f' n0)
    | true =>
      cases n1 : numO c with
      | false =>
        rw [show limV [a, b, c, d, e, f, g] = limZ by simp only [limV, n0, n1, Bool.true_and, Bool.false_and, cond_false]]
        exact li_w1 k1 (not_t' n0) k2 (not_f' n1)
      | true =>
        cases n2 : numO d with
        | false =>
          rw [show limV [a, b, c, d, e, f, g] = limZ by simp only [limV, n0, n1, n2, Bool.true_and, Bool.false_and, cond_false]]
          exact li_w2 k1 (not_t' n0) k2 (not_t' n1) k3 (not_f' n2)
        | true =>
          cases n3 : numO e with
          | false =>
            rw [show limV [a, b, c, d, e, f, g] = limZ by simp only [limV, n0, n1, n2, n3, Bool.true_and, Bool.false_and, cond_false]]
            exact li_w3 k1 (not_t' n0) k2 (not_t' n1) k3 (not_t' n2) k4 (not_f' n3)
          | true =>
            cases n4 : numO f with
            | false =>
              rw [show limV [a, b, c, d, e, f, g] = limZ by simp only [limV, n0, n1, n2, n3, n4, Bool.true_and, Bool.false_and, cond_false]]
              exact li_w4 k1 (not_t' n0) k2 (not_t' n1) k3 (not_t' n2) k4 (not_t' n3) k5 (not_f' n4)
            | true =>
              cases n5 : numO g with
              | false =>
                rw [show limV [a, b, c, d, e, f, g] = limZ by simp only [limV, n0, n1, n2, n3, n4, n5, Bool.true_and, Bool.false_and, cond_false]]
                exact li_w5 k1 (not_t' n0) k2 (not_t' n1) k3 (not_t' n2) k4 (not_t' n3) k5 (not_t' n4) k6 (not_f' n5)
              | true =>
                cases nw : strEq a s_limits with
                | false =>
                  rw [show limV [a, b, c, d, e, f, g] = limZ by simp only [limV, n0, n1, n2, n3, n4, n5, nw, Bool.true_and, Bool.false_and, cond_false]]
                  exact li_w6 k1 (not_t' n0) k2 (not_t' n1) k3 (not_t' n2) k4 (not_t' n3) k5 (not_t' n4) k6 (not_t' n5) (not_f' nw)
                | true =>
                  rw [show limV [a, b, c, d, e, f, g] = _ by simp only [limV, n0, n1, n2, n3, n4, n5, nw, Bool.true_and, cond_true]; rfl]
                  exact li_w7 k1 (not_t' n0) k2 (not_t' n1) k3 (not_t' n2) k4 (not_t' n3) k5 (not_t' n4) k6 (not_t' n5) (not_t' nw)
  · have : limV ps = limZ := by
      unfold limV
      split
      · simp at h7
      · rfl
    rw [this]
    exact limits_short hp h1 h7
end Go.Proofs.YtkmicbhnfochjaaGreatDoor

namespace Go.Proofs.YtkmicbhnfochjaaGreatDoor
open Go Go.Sx Go.Eng
def liQ (ps : List ByteArray) : Prop := okP ps ∧ 1 ≤ ps.length
/-- The first line's numbers, if they may be read. -/
def limP : List ByteArray → Option (List Int)
  | [a, b, c, d, e, f, g] => bif numO b && (numO c && (numO d && (numO e && (numO f && (numO g && strEq a s_limits))))) then some [numN b, numN c, numN d, numN e, numN f, numN g] else none
  | _ => none
def limI (i : Nat) (ps : List ByteArray) : Int := match limP ps with
  | some ns => ns.getD i 0
  | none => 0
def limO (ps : List ByteArray) : Bool := match limP ps with
  | some [a, b, c, d, e, g] => rightB a b c d e g
  | _ => false
def limW (ps : List ByteArray) : Value := .tuple ⟨[.agg ⟨[.int .i64 (limI 0 ps), .int .i64 (limI 1 ps), .int .i64 (limI 2 ps), .int .i64 (limI 3 ps), .int .i64 (limI 4 ps), .int .i64 (limI 5 ps)]⟩, .bool (limO ps)]⟩
theorem limV_W (ps : List ByteArray) : limV ps = limW ps := by
  unfold limV
  split
  · rename_i a b c d e f g
    cases hZ : (numO b && (numO c && (numO d && (numO e && (numO f && (numO g && strEq a s_limits)))))) with
    | true =>
      have hp : limP [a, b, c, d, e, f, g] = some [numN b, numN c, numN d, numN e, numN f, numN g] := by
        unfold limP; simp only [hZ, cond_true]
      unfold limW limI limO
      rw [hp]; rfl
    | false =>
      have hp : limP [a, b, c, d, e, f, g] = none := by
        unfold limP; simp only [hZ, cond_false]
      unfold limW limI limO
      rw [hp]; rfl
  · have hp : limP ps = none := by
      unfold limP
      split
      · rename_i h
        exact absurd rfl (h _ _ _ _ _ _ _)
      · rfl
    unfold limW limI limO
    rw [hp]; rfl
noncomputable def conE5 : Contracts := addR1 conE4 15 19 liQ limW
theorem conE5_holds : Holds Tryz.prog conE5 := conE4_holds.addR1 (fun ps h => by rw [← limV_W]; exact limits_does h.1 h.2) (fun _ => rfl)
end Go.Proofs.YtkmicbhnfochjaaGreatDoor
