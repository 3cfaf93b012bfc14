/- Symbolic executor, part 26: pieces of code joined: one behind the other, blocks, loops, calls; what a piece comes to under other names, with less told. No condition. -/
import Derived.Test.YtglaapelpidfhaaGreatSxMask
namespace Go.Sx
variable {P : Program}

/-- What a piece does, its names given anew, with less told of it. -/
theorem does_ren {ρ : Names} {c0 c1 c2 : Nat} {h0 h2 h' : Heap} {code : Code} {T T2 T' : List Value} {e : SExit} (hρ : ρ.ok c0 c1 = true) (h21 : c2 ≤ c1) (hb : Does P c0 h0 c2 h2 (.code code T) (.out e T2)) (R : RenTo ρ c0 c1 h2 T2 h' T') :
    Does P c0 h0 c1 h' (.code code T) (.out e T') := by
  have h01 : c0 ≤ c1 := Nat.le_trans hb.1 h21
  refine ⟨h01, fun r ow w hs hf a ha hd => ?_⟩
  refine wp_mono (hb.2 r ow w hs (hf.sub (Nat.le_refl _) h21) a ha hd) ?_
  intro e' a' w' ⟨hex, hd', r', ow', hp, ha'⟩
  obtain ⟨hq, _⟩ := hp.ren hρ h01 (Nat.le_refl _) h21 hf R.heap
  exact ⟨hex, hd', _, _, hq, R.tmps _ _ _ (fun n m h => ren_at hρ (Nat.le_refl _) r' h) ha'⟩
/-- A run of a piece, held against what it is to come to. -/
theorem does_of (hm : P.follows .mixedOrders = true) {C : Contracts} (hC : Holds P C) (ρ : Names) {c0 c1 n : Nat} {code : Code} {T : List Value} {d : Advice} {h h' : Heap} {l : List (Nat × Value)} (ss : List (Nat × Bool)) {e : SExit} {len c2 : Nat} {L L' : List VC}
    (e0 : rOutM (nameOf ρ c0 c1) l ss h' (exF P C n (.code code T) d (stOf c0 h)) = some (e, l.map (·.2), len, c2, h', L', L)) (hρ : Names.ok ρ c0 c1 = true) (hc : Nat.ble c2 c1 = true) (hV' : VCs L') (hV : VCs L) : Does P c0 h c1 h' (.code code T) (.out e (mkT len 0 l)) := by
  obtain ⟨T2, h2, a, b⟩ := rOutM_does hm hC e0 hV' hV
  exact does_ren hρ (Nat.le_of_ble_eq_true hc) a b
theorem does_seq {c0 c1 c2 : Nat} {h0 h1 h2 : Heap} {a b : Code} {T T1 T2 : List Value} {e : SExit} (ha : Does P c0 h0 c1 h1 (.code a T) (.out .normal T1)) (hb : Does P c1 h1 c2 h2 (.code b T1) (.out e T2)) : Does P c0 h0 c2 h2 (.code (.seq a b) T) (.out e T2) := by
  refine ⟨Nat.le_trans ha.1 hb.1, fun r ow w hs hf x hx hd => ?_⟩
  refine wp_seq (wp_mono (ha.2 r ow w hs (hf.sub (Nat.le_refl _) hb.1) x hx hd) ?_)
  intro e' a' w' ⟨hex, hd', r', ow', hp, ha'⟩
  cases e' <;> simp only [exitRel] at hex
  refine wp_mono (hb.2 r' ow' w' hp.sat (hf.after hp.new ha.1) a' ha' hd') ?_
  intro e2 a2 w2 ⟨q1, q2, r3, o3, q3, q4⟩
  exact ⟨q1, q2, r3, o3, hp.trans q3, q4⟩
theorem does_seq_out {c0 c1 : Nat} {h0 h1 : Heap} {a b : Code} {T T1 : List Value} {e : SExit} (he : e ≠ .normal) (ha : Does P c0 h0 c1 h1 (.code a T) (.out e T1)) : Does P c0 h0 c1 h1 (.code (.seq a b) T) (.out e T1) := by
  refine ⟨ha.1, fun r ow w hs hf x hx hd => ?_⟩
  refine wp_seq (wp_mono (ha.2 r ow w hs hf x hx hd) ?_)
  intro e' a' w' hq
  cases e' with
  | normal => obtain ⟨hex, _⟩ := hq; cases e <;> simp only [exitRel] at hex; exact (he rfl).elim
  | _ => exact hq
theorem does_loop {c0 c1 : Nat} {h0 h1 : Heap} {a : Code} {T T1 : List Value} {e : SExit} (ha : Does P c0 h0 c1 h1 (.inLoop a T) (.out e T1)) : Does P c0 h0 c1 h1 (.code (.loop a) T) (.out e T1) :=
  ⟨ha.1, fun r ow w hs hf x hx hd => wp_loop_of (ha.2 r ow w hs hf x hx hd)⟩
theorem does_block_exit {c0 c1 id : Nat} {h0 h1 : Heap} {a : Code} {T T1 : List Value} (ha : Does P c0 h0 c1 h1 (.code a T) (.out (.exit id) T1)) : Does P c0 h0 c1 h1 (.code (.block id a) T) (.out .normal T1) := by
  refine ⟨ha.1, fun r ow w hs hf x hx hd => ?_⟩
  refine wp_block (wp_mono (ha.2 r ow w hs hf x hx hd) ?_)
  intro e' a' w' ⟨hex, hq⟩
  cases e' <;> simp only [exitRel] at hex
  subst hex
  simp only [Exit.inBlock, if_true]
  exact ⟨trivial, hq⟩
theorem does_block {c0 c1 id : Nat} {h0 h1 : Heap} {a : Code} {T T1 : List Value} {e : SExit} (he : e ≠ .exit id) (ha : Does P c0 h0 c1 h1 (.code a T) (.out e T1)) : Does P c0 h0 c1 h1 (.code (.block id a) T) (.out e T1) := by
  refine ⟨ha.1, fun r ow w hs hf x hx hd => ?_⟩
  refine wp_block (wp_mono (ha.2 r ow w hs hf x hx hd) ?_)
  intro e' a' w' hq
  cases e' with
  | exit j =>
    obtain ⟨hex, hq⟩ := hq
    cases e with
    | exit i =>
      have hij : i = j := hex
      have hne : ¬ (j = id) := fun q => he (by rw [hij, q])
      simp only [Exit.inBlock, if_neg hne]
      exact ⟨hex, hq⟩
    | _ => simp only [exitRel] at hex
  | _ => exact hq
/-- A run as it stands: no name given anew, the heap told whole. -/
def rawOut (slots : List Nat) : Option (ARes × St) → Option (SExit × List Value × Nat × Nat × Heap × List VC)
  | some (.out e T, s) => some (e, slots.map fun k => T.getD k undef, T.length, s.c, s.h, s.V)
  | _ => none
theorem cut_none (r : Env) (c : Nat) : r.cut c c = r := by
  have : ∀ n, inside c c n = false := fun n => by
    cases h : inside c c n with
    | false => rfl
    | true => have := inside_iff.1 h; omega
  unfold Env.cut
  simp only [this, Bool.false_eq_true, if_false]
theorem mkT_raw {r : Env} {n : Nat} {T2 us : List Value} {l : List (Nat × Value)} (h : RelL r T2 us) (hn : T2.length = n) (hl : ((l.map (·.1)).map fun k => T2.getD k undef) = l.map (·.2)) : RelL r (mkT n 0 l) us := by
  have := mkT_of (c := 0) (c2 := 0) h hn (l := l) fun p hp => ⟨by
    have : ∀ {l : List (Nat × Value)}, ((l.map (·.1)).map fun k => T2.getD k undef) = l.map (·.2) → p ∈ l → T2.getD p.1 undef = p.2 := by
      intro l
      induction l with
      | nil => intro _ hp; cases hp
      | cons q l ih =>
        intro e hp
        simp only [List.map_cons, List.cons.injEq] at e
        rcases List.mem_cons.1 hp with rfl | hp
        · exact e.1
        · exact ih e.2 hp
    exact this hl hp, fun r u hr => by rw [cut_none]; exact hr⟩
  rwa [cut_none] at this
theorem does_raw (hm : P.follows .mixedOrders = true) {C : Contracts} (hC : Holds P C) {c n : Nat} {code : Code} {T : List Value} {d : Advice} {h h2 : Heap} {l : List (Nat × Value)} {e : SExit} {len c2 : Nat} {L : List VC}
    (e0 : rawOut (l.map (·.1)) (exF P C n (.code code T) d (stOf c h)) = some (e, l.map (·.2), len, c2, h2, L)) (hV : VCs L) : Does P c h c2 h2 (.code code T) (.out e (mkT len 0 l)) := by
  match e1 : exF P C n (.code code T) d (stOf c h), e0 with
  | some (.out e' T', s'), e0 =>
    simp only [rawOut, Option.some.injEq, Prod.mk.injEq] at e0
    obtain ⟨rfl, h1, rfl, rfl, rfl, rfl⟩ := e0
    have hd := does_of_far hm hC e1 hV
    refine ⟨hd.1, fun r ow w hs hf a ha hx => wp_mono (hd.2 r ow w hs hf a ha hx) ?_⟩
    intro e2 a2 w2 ⟨q1, q2, r3, o3, q3, q4⟩
    exact ⟨q1, q2, r3, o3, q3, mkT_raw q4 rfl h1⟩
/-- A function's call, by its body: it ends by return, the result in a temporary. -/
theorem does_call {f : FuncId} {fn : Func} {body : Code} {t : Nat} (hf : P.funcs[f]? = some fn) (hb : fn.body = some body) (hr : fn.results = #[.tmp t]) {c0 c1 : Nat} {h0 h1 : Heap} {args T2 : List Value} {v : Value}
    (hd : Does P c0 h0 c1 h1 (.code body (args ++ List.replicate (fn.ntmps - args.length) undef)) (.out .ret T2)) (hv : T2.getD t undef = v) : Does P c0 h0 c1 h1 (.call f args) (.val v) := by
  refine ⟨hd.1, fun r ow w hs hfr us hus => ?_⟩
  have hwp := hd.2 r ow w hs hfr { tmps := us ++ Array.replicate (fn.ntmps - us.size) undef, defers := [] } (fit_rel hus) rfl
  refine calls_of_wp hf hb (wp_mono hwp ?_)
  intro e' a' w' ⟨hex, hd', r', ow', hp, ha'⟩
  cases e' <;> simp only [exitRel] at hex
  have hx : resX P T2 fn.results.toList [] (stOf c1 h1) = some ([T2.getD t undef], stOf c1 h1) := by rw [hr]; rfl
  obtain ⟨u, g1, g2⟩ := (results_snd hx).2 vcs_nil r' ow' w' a'.tmps hp.sat ha'
  rw [hv] at g2
  exact ⟨hd', u, g1, r', ow', u, rfl, hp, g2⟩
/-- A contract out of what a call does, from nothing. -/
theorem gives_of_does {f : FuncId} {args : List Value} {v : Value} {c1 : Nat} {h1 : Heap} (hd : Does P 0 [] c1 h1 (.call f args) (.val v)) (ha : eachL (bare 9) args = true) (hv : bare 9 v = true) : Gives P f args v := by
  intro r us w hu
  have hus : us.toList = args := eachL_eq (bare_eq 9) ha hu
  have hu' : RelL nil args us.toList := by rw [hus]; exact eachL_rel (bare_rel 9) ha
  exact Calls.mono (hd.2 nil noOne w (sat_nil w) (fun n _ _ => ⟨rfl, rfl⟩) us hu') fun e w' ⟨r', ow', u, he, hp, hr⟩ => ⟨u, he, by rw [bare_eq 9 v u hv hr]; exact bare_rel 9 v hv, hp.frame.old⟩
end Go.Sx
