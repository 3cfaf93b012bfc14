/- What EngineChecks's walk gives a row; a world for the witness. No condition. -/
import Derived.Test.YtkmicbhnfochjaaGreatDoorCards
import Derived.Test.YtkmicbhnfochjaaGreatDoorTie
import Derived.Test.YtkmicbhnfochjaaGreatDoorMTop
import Derived.WalkKit
import Derived.ProofKit
import Derived.OpenShut
import Derived.Deep.DeepHandedRow
import Derived.Lib.LaidTab
import Derived.LaidHandle
import Derived.Shelf.Vars
import Derived.ChangeMaps5

namespace Go.Proofs.YtkmicbhnfochjaaGreatDoor
open Go Go.ChangeShapes Go.WideShapes Go.ChangeAt Go.RowKit Go.ChangeMaps

theorem ownE : ownKnob Tryz.prog.godebug = none := by kernel_rfl
theorem gErr : Tryz.prog.globalNamed "errors.errorType" = some 0 := by kernel_rfl
theorem rtT : (Tryz.prog.cutTypes.find? (·.1 == "internal/reflectlite.rtype")).map (·.2) = some 174 := by kernel_rfl
theorem nTypes : Tryz.prog.types.size = 497 := by kernel_rfl
theorem nGlobals : Tryz.prog.globals.size = 7 := by kernel_rfl
theorem oneRow : ((List.range 497).filter fun t => Tryz.prog.rowNamed t [101, 114, 114, 111, 114]) = [24] := by kernel_rfl
abbrev laidL : List (String × DataW Unit) := Rows.engineChecksUptoRow.laid
theorem laid_parts {W : World} (h : laidMetH Tryz.prog laidL W) : handlesMet Tryz.prog [("errors.errorType", Rows.laid_errors_errorType)] W := h.2
theorem glob_of {W : World} (h : laidMetH Tryz.prog laidL W) (hs : W.ShapedOpen Tryz.prog) : glob W := by
  refine ⟨cell_of_shapedOpen_int (t := 3) (zero := #[.int .i64 0]) hs (Nat.lt_of_lt_of_eq (by decide : 1 < 7) nGlobals.symm) (by kernel_rfl) rfl (by kernel_rfl) (by kernel_rfl) Tryz.underlying3, ?_⟩
  obtain ⟨name, u, ty, e1, e2, e3, e4, e5⟩ := laid_parts h _ (List.mem_singleton.2 rfl)
  have en : name = [101, 114, 114, 111, 114] := (Option.some.inj e1).symm
  subst en
  obtain rfl := Option.some.inj (rtT.symm.trans e2)
  have hm : ty ∈ (List.range 497).filter fun t => Tryz.prog.rowNamed t [101, 114, 114, 111, 114] := List.mem_filter.2 ⟨List.mem_range.2 (by rw [← nTypes]; exact e3), e4⟩
  rw [oneRow] at hm
  obtain rfl := List.mem_singleton.1 hm
  have hh : typeHandle Tryz.prog 24 = .pointer (some ⟨7, 24, none⟩) := by kernel_rfl
  rw [hh] at e5
  simpa using World.var?_cell gErr e5 0
theorem Old.below {w w' : World} (h : Sx.Old w w') : Below w.heap.size w w' := ⟨h.os, h.tape, h.output, h.size, h.keep⟩
theorem bulk_string {H : Type} {l : List UInt8} (h : Rows.uptoSmall H [DataW.lit (.string l)] = true) : l.length ≤ 4294967280 := by
  have e : Rows.uptoBulk (DataW.lit (H := H) (.string l)) = l.length + 1 := by simp [Rows.uptoBulk]
  have h2 : Rows.uptoBulkAll [DataW.lit (H := H) (.string l)] ≤ 1048576 := by simpa [Rows.uptoSmall] using h
  have h3 : Rows.uptoBulkAll [DataW.lit (H := H) (.string l)] = Rows.uptoBulk (DataW.lit (H := H) (.string l)) + Rows.uptoBulkAll ([] : List (DataW H)) := by simp only [Rows.uptoBulkAll]
  omega
theorem engine_calls {W : World} (hg : glob W) {s : ByteArray} (hs : s.data.toList.length ≤ 4294967280) : Calls Tryz.prog 3 #[.string s] W fun e w' => e = .returned (.bool true) ∧ Sx.Old W w' :=
  Calls.mono (top_gives hs Sx.argsEnv #[.string s] W hg (.cons (.string s) .nil)) fun _ _ ⟨_, he, hr, ho⟩ => by cases hr; exact ⟨he, ho⟩

set_option maxRecDepth 100000 in
/-- What the walk gives, for every text of the bulk and every world that holds what the row lists. -/
theorem engineContract (H : Type) (enc : TypeId × Value → H) (W : World) (base : Nat) (args : Array Value) (ds gs : List (DataW H)) (before : List MemPlace)
    (hval : ∀ (j : Nat) t v, Tryz.f3.params[j]? = some t → args[j]? = some v → Value.okWide Tryz.prog W .any base t v)
    (hW : DataW.Whole enc Tryz.prog Tryz.f3.params.toList Rows.engineChecksSpec.vars false W args.toList ds gs before) (hk : Rows.uptoSmall H (ds ++ gs) = true) (hL : laidMetH Tryz.prog laidL W) (hs : W.ShapedOpen Tryz.prog) :
    Calls Tryz.prog 3 args W fun e W' => ∃ v, e = .returned v ∧ Rows.engineChecksSpec.post enc Tryz.prog Tryz.f3 false true false false W args v W' := by
  have hW' := hW
  obtain ⟨p, q, hA0, hV, rfl, hfz, hnd⟩ := hW
  have hA : DataW.TrodAll enc Tryz.prog W 0 (fun _ => true) true Tryz.f3.params.toList args.toList ds p := hA0
  rw [Tryz.params3] at hA hval
  obtain ⟨v0, vs0, d0, ds0, p0, q0, hargs, rfl, rfl, h0, r0⟩ := trodAll_cons hA
  obtain ⟨rfl, rfl, rfl⟩ := trodAll_nil r0
  obtain rfl : args = #[v0] := by cases args; simp_all
  obtain ⟨rfl, rfl⟩ := trodVars_none hV
  obtain ⟨s, rfl, rfl, rfl, hsz⟩ := open_string Tryz.underlying9 (hval 0 9 v0 rfl rfl) h0
  clear hA0
  simp only [List.append_nil] at hW' hk
  have hb := bulk_string hk
  refine (engine_calls (glob_of hL hs) (s := s) hb).mono fun e W' ⟨he, old⟩ => ?_
  subst he
  have bel := Old.below old
  exact ⟨_, rfl, _, _, _, [], _, [], hW', trodAll_mk1 (shut_bool Tryz.underlying4 _), trodAll_cons_mk (shut_string Tryz.underlying9 hsz) trodAll_mk0, rfl, bel.frame _, fun h => by cases h⟩

/-- The numbers of a table. -/
def flatD : Nat → DataW Unit → List Value
  | 0, _ => []
  | n + 1, d => match d with
    | .lit (.int k i) => [.int k i]
    | .agg l => (l.map (flatD n)).flatten
    | _ => []
def putG (i : Nat) (vs : Array Value) (h : Array Obj) : Array Obj := h.modify i fun
  | .cells _ t frozen => .cells vs t frozen
  | o => o
/-- A world for the witness: the settled one, the three variables laid. -/
noncomputable def laidWorld (os : Os) : World :=
  { World.holding Tryz.prog os ⟨#[], #[], []⟩ with heap := putG 0 #[.iface 174 (.agg #[.pointer (some ⟨7, 24, none⟩)])] (putG 3 (flatD 3 Rows.laid_unicode_utf8_acceptRanges).toArray (putG 2 (flatD 3 Rows.laid_unicode_utf8_first).toArray (World.holding Tryz.prog os ⟨#[], #[], []⟩).heap)) }
theorem laid_met (os : Os) : laidMetH Tryz.prog laidL ((laidWorld os).forCall (fun _ _ => 0) ⟨#[], #[.string ⟨#[]⟩], []⟩).memory :=
  laidMetH_of_parts (laidMet_of_run' 8 (by kernel_rfl) (by kernel_rfl)) (by kernel_rfl)
theorem readsE (os : Os) {H : Type} (enc : TypeId × Value → H) : ∃ places, DataW.whole enc Tryz.prog ((laidWorld os).forCall (fun _ _ => 0) ⟨#[], #[.string ⟨#[]⟩], []⟩).memory Tryz.f3.params.toList Rows.engineChecksSpec.vars false #[Value.string ⟨#[]⟩].toList 8 = some ([.lit (.string [])], [], places) :=
  ⟨[], by kernel_rfl⟩

end Go.Proofs.YtkmicbhnfochjaaGreatDoor
