/- Symbolic executor, part 17: a region that draws its order. No condition. -/
import Derived.Test.YtglaapelpidfhaaGreatSxPar
namespace Go.Sx

section
variable {P : Program}

theorem parOps_fn {rec : Rec} (hl : LocalR rec) {ops : List Oper} : ∀ (l : List Oper) (T T' : List Value) (F : List Foot) (d : Advice) (s s' : St), parOps P rec ops l T d s = some ((T', F), s') →
    ∃ f : Nat → List Value × St, f 0 = (T, s) ∧ (f l.length).1 = T' ∧ ((f l.length).2 = s') ∧ F.length = l.length ∧ (∀ i o, l[i]? = some o → ∃ v t, stepV P rec ops (f i).1 o d ⟨(f i).2.c, (f i).2.k, (f i).2.h, [], [], (f i).2.V⟩ = some (v, t) ∧
      (f (i + 1)).1 = putT (f i).1 o.dst v ∧ (f (i + 1)).2.c = t.c ∧ (f (i + 1)).2.h = t.h ∧ (f (i + 1)).2.V = t.V ∧ F[i]? = some ⟨looks ops o, o.dst.toList, t.R, t.W⟩)
  | [], T, T', F, d, s, s', h => by
    obtain ⟨h1, rfl⟩ := pure_some (d := d) h
    cases h1
    exact ⟨fun _ => (T, s), rfl, rfl, rfl, rfl, fun i o hi => by simp at hi⟩
  | o :: l, T, T', F, d, s, s', h => by
    obtain ⟨⟨v, R, W⟩, s1, h1, h2⟩ := bind_some (d := d) h
    obtain ⟨⟨T2, F2⟩, s2, h3, h4⟩ := bind_some h2
    obtain ⟨h5, rfl⟩ := pure_some h4
    simp only [Prod.mk.injEq] at h5
    obtain ⟨rfl, rfl⟩ := h5
    unfold scopeX at h1
    cases e : stepV P rec ops T o d { s with R := [], W := [] } with
    | none => simp [e] at h1
    | some p =>
      obtain ⟨v', t⟩ := p
      simp only [e, Option.some.injEq, Prod.mk.injEq] at h1
      obtain ⟨⟨rfl, rfl, rfl⟩, rfl⟩ := h1
      obtain ⟨f, f0, f1, f2, f3, f4⟩ := parOps_fn hl l _ _ _ d _ _ h3
      refine ⟨fun | 0 => (T, s) | i + 1 => f i, rfl, f1, f2, by simp [f3], fun i o' hi => ?_⟩
      cases i with
      | zero =>
        simp at hi; subst hi
        exact ⟨v', t, e, by simp [f0], by simp [f0], by simp [f0], by simp [f0], rfl⟩
      | succ i =>
        obtain ⟨v2, t2, g⟩ := f4 i o' (by simpa using hi)
        exact ⟨v2, t2, by simpa using g⟩

def unl (L : Nat → Bool) : Nat → Nat
  | 0 => 0
  | k + 1 => unl L k + (if L k then 0 else 1)
theorem unl_congr {L M : Nat → Bool} : ∀ {k : Nat}, (∀ i, i < k → L i = M i) → unl L k = unl M k
  | 0, _ => rfl
  | k + 1, h => by simp only [unl]; rw [unl_congr fun i hi => h i (by omega), h k (by omega)]
theorem unl_set {L M : Nat → Bool} {q : Nat} (hq : L q = false) (hM : M q = true) (ho : ∀ i, i ≠ q → M i = L i) : ∀ {k : Nat}, q < k → unl M k + 1 = unl L k
  | 0, h => by omega
  | k + 1, h => by
    simp only [unl]
    by_cases e : q = k
    · subst e
      have : unl M q = unl L q := unl_congr fun i hi => ho i (by omega)
      simp [this, hq, hM]
    · have := unl_set hq hM ho (k := k) (by omega)
      rw [ho k (Ne.symm e)]
      omega
theorem unl_zero {L : Nat → Bool} : ∀ {k : Nat}, unl L k = 0 → ∀ i, i < k → L i = true
  | 0, _, i, hi => by omega
  | k + 1, h, i, hi => by
    simp only [unl] at h
    by_cases e : i = k
    · subst e; cases hL : L i with
      | true => rfl
      | false => simp [hL] at h
    · exact unl_zero (k := k) (by omega) i (by omega)

theorem par_any {rec : Rec} (hr : RecSnd P rec) {ops : Array Oper} {T T' : List Value} {d : Advice} {s s' : St} (h : parX P rec ops.toList T d s = some (T', s')) :
    (VCs s'.V → VCs s.V) ∧ (VCs s'.V → ∀ (r0 : Env) (ow0 : Nat → Option Nat) (w0 : World) (a0 : Act), Sat P r0 ow0 s.h w0 → Fresh r0 s.c s'.c → RelL r0 T a0.tmps.toList → a0.defers = [] → ∀ (Q : Exit → Act → World → Prop),
      (∀ r' ow' a' w', Post P r0 ow0 w0 s r' ow' w' s' → RelL r' T' a'.tmps.toList → a'.defers = [] → Q .normal a' w') → wpAny P .any ops Q ops.size (Array.replicate ops.size false) a0 w0) := by
  unfold parX at h
  obtain ⟨⟨T2, F⟩, s1, h1, h2⟩ := bind_some h
  obtain ⟨_, s2, h3, h4⟩ := bind_some h2
  obtain ⟨hchk, rfl⟩ := need_some h3
  obtain ⟨h5, rfl⟩ := pure_some h4
  simp only at h5 hchk
  subst h5
  simp only [Bool.and_eq_true] at hchk
  obtain ⟨hedge, hall⟩ := hchk
  obtain ⟨f, f0, fT, fS, fF, fstep⟩ := parOps_fn hr.loc ops.toList T T2 F d s s1 h1
  have hn : ops.toList.length = ops.size := by simp
  rw [hn] at fT fS fF
  -- the counter and the conditions only grow
  have hgrow : ∀ i, i < ops.size → (f i).2.c ≤ (f (i + 1)).2.c ∧ (VCs (f (i + 1)).2.V → VCs (f i).2.V) := by
    intro i hi
    obtain ⟨v, t, e1, e2, e3, e4, e5, e6⟩ := fstep i ops[i] (by simp [hi])
    have hloc := Local.stepV hr.loc ops.toList (f i).1 ops[i] d _ _ _ e1
    refine ⟨by rw [e3]; exact hloc.1, fun hV => ?_⟩
    rw [e5] at hV
    exact (stepV_snd hr.mono (i := i) (o := ops[i]) (by simp [hi]) e1).1 hV
  have hc : ∀ j i, i ≤ j → j ≤ ops.size → (f i).2.c ≤ (f j).2.c := by
    intro j
    induction j with
    | zero => intro i hi _; obtain rfl : i = 0 := (by omega); exact Nat.le_refl _
    | succ j ih =>
      intro i hi hj
      by_cases e : i = j + 1
      · subst e; exact Nat.le_refl _
      · exact Nat.le_trans (ih i (by omega) (by omega)) (hgrow j (by omega)).1
  have hVn : ∀ j i, i ≤ j → j ≤ ops.size → VCs (f j).2.V → VCs (f i).2.V := by
    intro j
    induction j with
    | zero => intro i hi _ hV; obtain rfl : i = 0 := (by omega); exact hV
    | succ j ih =>
      intro i hi hj hV
      by_cases e : i = j + 1
      · subst e; exact hV
      · exact ih i (by omega) (by omega) ((hgrow j (by omega)).2 hV)
  have hV0 : VCs s1.V → VCs s.V := fun hV => by
    have := hVn ops.size 0 (Nat.zero_le _) (Nat.le_refl _) (by rw [fS]; exact hV)
    rw [f0] at this; exact this
  refine ⟨hV0, fun hV r0 ow0 w0 a0 hs0 hf0 ha0 hd0 Q hQ => ?_⟩
  have hVi : ∀ i, i ≤ ops.size → VCs (f i).2.V := fun i hi => hVn ops.size i hi (Nat.le_refl _) (by rw [fS]; exact hV)
  have hc0 : (f 0).2.c = s.c := by rw [f0]
  have hcn : (f ops.size).2.c = s1.c := by rw [fS]
  -- what is not written does not turn
  have hkeepN : ∀ i, i < ops.size → ∀ ft, F[i]? = some ft → ∀ n, n ∉ ft.W → (f (i + 1)).2.h.get n = (f i).2.h.get n := by
    intro i hi ft hft n hn'
    obtain ⟨v, t, e1, e2, e3, e4, e5, e6⟩ := fstep i ops[i] (by simp [hi])
    rw [e6] at hft; cases hft
    obtain ⟨_, R, W, V, q1, q2, q3, q4, q5⟩ := Local.stepV hr.loc ops.toList (f i).1 ops[i] d _ _ _ e1
    simp only [List.append_nil] at q2
    rw [e4]
    exact q4 n (by rw [← q2]; exact hn')
  have hkeepT : ∀ i, i < ops.size → ∀ ft, F[i]? = some ft → ∀ t, t ∉ ft.tw → (f (i + 1)).1.getD t undef = (f i).1.getD t undef := by
    intro i hi ft hft t ht
    obtain ⟨v, tt, e1, e2, e3, e4, e5, e6⟩ := fstep i ops[i] (by simp [hi])
    rw [e6] at hft; cases hft
    rw [e2]
    cases hd : ops[i].dst with
    | none => rfl
    | some dd =>
      simp only [hd, Option.toList_some, List.mem_singleton] at ht
      simp [putT, List.getD, List.getElem?_set_ne (Ne.symm ht)]
  have hlenT : ∀ i, i ≤ ops.size → (f i).1.length = T.length := by
    intro i
    induction i with
    | zero => intro _; rw [f0]
    | succ i ih =>
      intro hi
      obtain ⟨v, tt, e1, e2, e3, e4, e5, e6⟩ := fstep i ops[i] (by simp [show i < ops.size by omega])
      rw [e2, ← ih (by omega)]
      cases ops[i].dst <;> simp [putT]
  have hFi : ∀ i, i < ops.size → ∃ ft, F[i]? = some ft := fun i hi => ⟨F[i], by simp [fF, hi]⟩
  -- no writer between two places: the same
  have hbetN : ∀ n b a, a ≤ b → b ≤ ops.size → (∀ j ft, a ≤ j → j < b → F[j]? = some ft → n ∉ ft.W) → (f b).2.h.get n = (f a).2.h.get n := by
    intro n b
    induction b with
    | zero => intro a ha _ _; obtain rfl : a = 0 := (by omega); rfl
    | succ b ih =>
      intro a ha hb hw
      by_cases e : a = b + 1
      · subst e; rfl
      · obtain ⟨ft, hft⟩ := hFi b (by omega)
        rw [hkeepN b (by omega) ft hft n (hw b ft (by omega) (by omega) hft)]
        exact ih a (by omega) (by omega) fun j ft' h1 h2 h3 => hw j ft' h1 (by omega) h3
  have hbetT : ∀ t b a, a ≤ b → b ≤ ops.size → (∀ j ft, a ≤ j → j < b → F[j]? = some ft → t ∉ ft.tw) → (f b).1.getD t undef = (f a).1.getD t undef := by
    intro t b
    induction b with
    | zero => intro a ha _ _; obtain rfl : a = 0 := (by omega); rfl
    | succ b ih =>
      intro a ha hb hw
      by_cases e : a = b + 1
      · subst e; rfl
      · obtain ⟨ft, hft⟩ := hFi b (by omega)
        rw [hkeepT b (by omega) ft hft t (hw b ft (by omega) (by omega) hft)]
        exact ih a (by omega) (by omega) fun j ft' h1 h2 h3 => hw j ft' h1 (by omega) h3
  -- the walk, whatever comes up
  have main : ∀ (fuel : Nat) (listed : Array Bool) (r : Env) (ow : Nat → Option Nat) (hT : Heap) (TT : List Value) (a : Act) (w : World),
      listed.size = ops.size → (∀ j, j < ops.size → listed.getD j false = true → ClosedAt (fun k => listed.getD k false) (ops.toList.getD j default)) →
      (∀ t p, p ≤ ops.size → (∀ j ft, F[j]? = some ft → t ∈ ft.tw → (listed.getD j false = true ↔ j < p)) → TT.getD t undef = (f p).1.getD t undef) → TT.length = T.length →
      (∀ n p, p ≤ ops.size → (∀ j ft, F[j]? = some ft → n ∈ ft.W → (listed.getD j false = true ↔ j < p)) → hT.get n = (f p).2.h.get n) →
      (∀ m, (r.blk m ≠ none ∨ r.val m ≠ none) → (r0.blk m ≠ none ∨ r0.val m ≠ none) ∨ ∃ j, j < ops.size ∧ listed.getD j false = true ∧ (f j).2.c ≤ m ∧ m < (f (j + 1)).2.c) →
      Sat P r ow hT w → RelL r TT a.tmps.toList → a.defers = [] → r0.Le r → New r0 r s.c s1.c → Frame ow0 w0 ow w → (∀ b n, ow b = some n → (∃ b', ow0 b' = some n) ∨ (s.c ≤ n ∧ n < s1.c)) →
      unl (fun k => listed.getD k false) ops.size ≤ fuel → wpAny P .any ops Q fuel listed a w := by
    -- all have come up
    have fin : ∀ (listed : Array Bool) (r : Env) (ow : Nat → Option Nat) (hT : Heap) (TT : List Value) (a : Act) (w : World),
        (∀ j, j < ops.size → listed.getD j false = true) →
        (∀ t p, p ≤ ops.size → (∀ j ft, F[j]? = some ft → t ∈ ft.tw → (listed.getD j false = true ↔ j < p)) → TT.getD t undef = (f p).1.getD t undef) → TT.length = T.length →
        (∀ n p, p ≤ ops.size → (∀ j ft, F[j]? = some ft → n ∈ ft.W → (listed.getD j false = true ↔ j < p)) → hT.get n = (f p).2.h.get n) →
        Sat P r ow hT w → RelL r TT a.tmps.toList → a.defers = [] → r0.Le r → New r0 r s.c s1.c → Frame ow0 w0 ow w → (∀ b n, ow b = some n → (∃ b', ow0 b' = some n) ∨ (s.c ≤ n ∧ n < s1.c)) → Q .normal a w := by
      intro listed r ow hT TT a w hall' hT1 hTl hN1 hs ha hd hle hnew hfr hown
      have hjl : ∀ j (ft : Foot), F[j]? = some ft → (listed.getD j false = true ↔ j < ops.size) := fun j ft hft => by
        have : j < ops.size := by rw [← fF]; exact (List.getElem?_eq_some_iff.1 hft).1
        exact ⟨fun _ => this, fun _ => hall' j this⟩
      have e1 : TT = T2 := by
        apply List.ext_getElem?
        intro k
        have h7 := hT1 k ops.size (Nat.le_refl _) (fun j ft hft _ => hjl j ft hft)
        rw [fT] at h7
        have hl2 : TT.length = T2.length := by rw [hTl, ← hlenT ops.size (Nat.le_refl _), fT]
        rw [List.getD_eq_getElem?_getD, List.getD_eq_getElem?_getD] at h7
        by_cases hk : k < TT.length
        · have hk2 : k < T2.length := by omega
          rw [List.getElem?_eq_getElem hk, List.getElem?_eq_getElem hk2] at h7 ⊢
          simpa using h7
        · rw [List.getElem?_eq_none (by omega), List.getElem?_eq_none (by omega)]
      subst e1
      have hget : ∀ n, s1.h.get n = hT.get n := fun n => by
        have h7 := hN1 n ops.size (Nat.le_refl _) (fun j ft hft _ => hjl j ft hft)
        rw [fS] at h7; exact h7.symm
      refine hQ r ow a w ⟨hle, hs.get_eq hget, hfr, hnew, ?_, hown⟩ ha hd
      have := hc ops.size 0 (Nat.zero_le _) (Nat.le_refl _)
      rw [hc0, hcn] at this; exact this
    intro fuel
    induction fuel with
    | zero =>
      intro listed r ow hT TT a w hsz hcl hT1 hTl hN1 hrn hs ha hd hle hnew hfr hown hfu
      have hall' := unl_zero (Nat.le_zero.1 hfu)
      refine ⟨?_, fin listed r ow hT TT a w hall' hT1 hTl hN1 hs ha hd hle hnew hfr hown⟩
      unfold Region.ready
      rw [List.filter_eq_nil_iff]
      intro i hi
      have hi' : i < ops.size := List.mem_range.1 hi
      have : listed.getD i true = true := by
        have h7 := hall' i hi'
        simp only [Array.getD_eq_getD_getElem?] at h7 ⊢
        rw [Array.getElem?_eq_getElem (by omega)] at h7 ⊢
        simpa using h7
      simp [this]
    | succ fuel ih =>
      intro listed r ow hT TT a w hsz hcl hT1 hTl hN1 hrn hs ha hd hle hnew hfr hown hfu
      have hgd : ∀ i, i < ops.size → listed.getD i true = listed.getD i false := fun i hi => by
        simp only [Array.getD_eq_getD_getElem?]
        rw [Array.getElem?_eq_getElem (by omega)]; rfl
      refine ⟨fun hnil => ?_, fun i hi => ?_⟩
      · -- nothing is ready: all have come up
        have hall' : ∀ j, j < ops.size → listed.getD j false = true := by
          intro j
          induction j using Nat.strongRecOn with
          | _ j ihj =>
            intro hj
            cases hL : listed.getD j false with
            | true => rfl
            | false =>
              exfalso
              have hmem : j ∈ Region.ready .any ops listed := by
                unfold Region.ready
                rw [List.mem_filter]
                refine ⟨List.mem_range.2 hj, ?_⟩
                have hoj : ops[j]? = some ops[j] := by simp [hj]
                simp only [hgd j hj, hL, Bool.not_false, Bool.true_and, hoj, Option.map_some, Option.getD_some]
                rw [Array.all_eq_true]
                intro q hq
                cases hb : Region.binds .any (ops[j].after[q]) with
                | false => simp
                | true =>
                  simp only [Bool.not_true, Bool.false_or]
                  -- edges lead back
                  have hback : ∀ (l : List Oper) (k : Nat), edgesOk k l = true → ∀ (i : Nat) (o : Oper), l[i]? = some o → ∀ e ∈ o.after.toList, Region.binds .any e = true → e.on < k + i := by
                    intro l
                    induction l with
                    | nil => intro k _ i o ho; simp at ho
                    | cons o' l ihl =>
                      intro k hk i o ho e he hbe
                      simp only [edgesOk, Bool.and_eq_true, List.all_eq_true] at hk
                      cases i with
                      | zero =>
                        simp at ho; subst ho
                        have := hk.1 e he
                        simp only [hbe, Bool.not_true, Bool.false_or] at this
                        exact Nat.le_of_ble_eq_true this
                      | succ i =>
                        have := ihl (k + 1) hk.2 i o (by simpa using ho) e he hbe
                        omega
                  have hlt := hback ops.toList 0 hedge j ops[j] (by simp [hj]) (ops[j].after[q]) (by simp) hb
                  rw [Nat.zero_add] at hlt
                  exact ihj _ hlt (by omega)
              rw [hnil] at hmem; cases hmem
        exact fin listed r ow hT TT a w hall' hT1 hTl hN1 hs ha hd hle hnew hfr hown
      · -- operation number i comes up
        unfold Region.ready at hi
        rw [List.mem_filter] at hi
        obtain ⟨hir, hi2⟩ := hi
        have hi' : i < ops.size := List.mem_range.1 hir
        have hoi : ops[i]? = some ops[i] := by simp [hi']
        simp only [hoi, Option.map_some, Option.getD_some, Bool.and_eq_true, Bool.not_eq_true', hgd i hi'] at hi2
        obtain ⟨hLi, hpre⟩ := hi2
        have hcli : ClosedAt (fun k => listed.getD k false) ops[i] := by
          intro e he hb
          rw [Array.all_eq_true] at hpre
          obtain ⟨q, hq, rfl⟩ := Array.getElem_of_mem (Array.mem_toList_iff.1 he)
          have := hpre q hq
          simpa [hb] using this
        obtain ⟨v, t, e1, e2, e3, e4, e5, e6⟩ := fstep i ops[i] (by simp [hi'])
        have hci : (f i).2.c ≤ (f (i + 1)).2.c := (hgrow i hi').1
        have hFj : ∀ j (ft : Foot), F[j]? = some ft → j < ops.size := fun j ft hft => by rw [← fF]; exact (List.getElem?_eq_some_iff.1 hft).1
        have hmask := fun k hk hck hjk => masksOf_spec ops.toList (fun k => listed.getD k false) ops.toList [] rfl hedge (fun k hk => by simp at hk) k hk hck hjk
        have hclD : ∀ j, j < ops.size → listed.getD j false = true → ClosedAt (fun k => listed.getD k false) (ops.toList.getD j default) := hcl
        have hgi : ops.toList.getD i default = ops[i] := by simp [List.getD, hi']
        -- those ahead of i have come up; those behind i have not
        have hbefore : ∀ j, Nat.testBit ((masksOf ops.toList []).getD i 0) j = true → listed.getD j false = true :=
          fun j hj => hmask i (by simpa using hi') (by rw [hgi]; exact hcli) (fun j' hj' hL' => hclD j' (by omega) hL') j hj
        have hbehind : ∀ j, j < ops.size → Nat.testBit ((masksOf ops.toList []).getD j 0) i = true → listed.getD j false = true → False := by
          intro j hj hbit hL
          have := hmask j (by simpa using hj) (hclD j hj hL) (fun j' hj' hL' => hclD j' (by omega) hL') i hbit
          rw [hLi] at this; cases this
        -- who touches what i touches stands on the right side of it
        have hside : ∀ (j : Nat) (ft : Foot), F[j]? = some ft → (∃ fi : Foot, F[i]? = some fi ∧ ((i < j → Indep fi ft → False) ∧ (j < i → Indep ft fi → False))) → (listed.getD j false = true ↔ j < i) := by
          intro j ft hft ⟨fi, hfi, h1, h2⟩
          have hj := hFj j ft hft
          rcases Nat.lt_trichotomy j i with hlt | heq | hgt
          · refine ⟨fun _ => hlt, fun _ => ?_⟩
            rcases checkAll_spec (masks := masksOf ops.toList []) (all := F) (l := F) (k := 0) rfl hall j i ft fi (Nat.zero_le _) hlt hft hfi with hb | hb
            · exact hbefore j hb
            · exact (h2 hlt hb).elim
          · subst heq
            refine ⟨fun hL => ?_, fun hlt => absurd hlt (Nat.lt_irrefl _)⟩
            rw [hLi] at hL; cases hL
          · refine ⟨fun hL => ?_, fun hlt => by omega⟩
            rcases checkAll_spec (masks := masksOf ops.toList []) (all := F) (l := F) (k := 0) rfl hall i j fi ft (Nat.zero_le _) hgt hfi hft with hb | hb
            · exact (hbehind j hj hb hL).elim
            · exact (h1 hgt hb).elim
        -- what i looks at is as it was in the text's order
        have hlook : ∀ x ∈ looks ops.toList ops[i], TT.getD x undef = (f i).1.getD x undef := fun x hx =>
          hT1 x i (Nat.le_of_lt hi') fun j ft hft hxw => hside j ft hft ⟨_, e6, fun _ hin => hin.rt x hx hxw, fun _ hin => hin.tr x hxw hx⟩
        have hnames : ∀ n, n ∈ t.R ∨ n ∈ t.W → hT.get n = (f i).2.h.get n := fun n hn' =>
          hN1 n i (Nat.le_of_lt hi') fun j ft hft hxw => hside j ft hft ⟨_, e6, fun _ hin => by
            rcases hn' with h7 | h7
            · exact hin.RW n h7 hxw
            · exact hin.WW n h7 hxw, fun _ hin => by
            rcases hn' with h7 | h7
            · exact hin.WR n hxw h7
            · exact hin.WW n hxw h7⟩
        rw [stepV_congr (U := TT) fun x hx => (hlook x hx).symm] at e1
        obtain ⟨_, R, W, V, q1, q2, q3, q4, q5⟩ := Local.stepV hr.loc ops.toList TT ops[i] d _ _ _ e1
        simp only [List.append_nil] at q1 q2
        obtain ⟨h2, e1', g1, g2⟩ := q5 ⟨(f i).2.c, (f i).2.k, hT, [], [], (f i).2.V⟩ rfl rfl (fun n hn' => hnames n (by rw [q1, q2]; exact hn'))
        simp only [List.append_nil] at e1'
        obtain ⟨_, snd⟩ := stepV_snd hr.mono hoi e1'
        have hVt : VCs (V ++ (f i).2.V) := by
          have := hVi (i + 1) hi'
          rw [e5, q3] at this; exact this
        have hfresh : Fresh r (f i).2.c t.c := by
          intro m hm1 hm2
          have hno : ¬ (r.blk m ≠ none ∨ r.val m ≠ none) := by
            intro hk
            rcases hrn m hk with hk0 | ⟨j, hj, hLj, hj1, hj2⟩
            · have h8 := hc i 0 (Nat.zero_le _) (Nat.le_of_lt hi')
              rw [hc0] at h8
              have h9 := hc ops.size (i + 1) hi' (Nat.le_refl _)
              rw [hcn, e3] at h9
              have := hf0 m (by omega) (by omega)
              rcases hk0 with hk0 | hk0
              · exact hk0 this.1
              · exact hk0 this.2
            · rcases Nat.lt_trichotomy j i with hlt | heq | hgt
              · have := hc i (j + 1) hlt (Nat.le_of_lt hi'); omega
              · subst heq; rw [hLi] at hLj; cases hLj
              · have := hc j (i + 1) hgt (by omega); rw [e3] at this; omega
          refine ⟨?_, ?_⟩
          · cases e : r.blk m with
            | none => rfl
            | some _ => exact absurd (.inl (by simp [e])) hno
          · cases e : r.val m with
            | none => rfl
            | some _ => exact absurd (.inr (by simp [e])) hno
        refine snd hVt r ow w a hs hfresh ha _ _ fun r' ow' u w' hp hu => ?_
        -- the walk goes on
        have hset : ∀ k, (listed.setIfInBounds i true).getD k false = if k = i then true else listed.getD k false := by
          intro k
          simp only [Array.getD_eq_getD_getElem?, Array.getElem?_setIfInBounds]
          by_cases hk : i = k
          · subst hk; simp [show i < listed.size by omega]
          · simp [hk, Ne.symm hk]
        have hc1 : s.c ≤ (f i).2.c := by have := hc i 0 (Nat.zero_le _) (Nat.le_of_lt hi'); rw [hc0] at this; exact this
        have hc2 : t.c ≤ s1.c := by have := hc ops.size (i + 1) hi' (Nat.le_refl _); rw [hcn, e3] at this; exact this
        refine ih (listed.setIfInBounds i true) r' ow' h2 (putT TT ops[i].dst v) _ w' (by simp [hsz]) ?_ ?_ ?_ ?_ ?_ hp.sat (putT_rel (ha.mono hp.le) _ hu) (by rw [put_defers]; exact hd) (hle.trans hp.le) ?_ (hfr.trans hp.frame) ?_ ?_
        · -- closed
          intro j hj hL e he hb
          simp only [hset] at hL ⊢
          by_cases hji : j = i
          · subst hji
            have := hcli e (by rw [← hgi]; exact he) hb
            simp only at this
            simp [this]
          · rw [if_neg hji] at hL
            have := hcl j hj hL e he hb
            simp only at this
            simp [this]
        · -- slots
          intro x p hp' hx
          by_cases hxd : x ∈ ops[i].dst.toList
          · have hpi : i < p := by
              have := (hx i _ e6 hxd).1 (by rw [hset]; simp)
              exact this
            have hbet := hbetT x p (i + 1) hpi hp' (fun j ft h7 h8 hft hxw => by
              have hL := (hx j ft hft hxw).2 h8
              rw [hset, if_neg (by omega)] at hL
              rcases checkAll_spec (masks := masksOf ops.toList []) (all := F) (l := F) (k := 0) rfl hall i j _ ft (Nat.zero_le _) (by omega) e6 hft with hb | hb
              · exact hbehind j (hFj j ft hft) hb hL
              · exact hb.tw x hxd hxw)
            rw [hbet, e2]
            cases hd' : ops[i].dst with
            | none => rw [hd'] at hxd; simp at hxd
            | some dd =>
              rw [hd'] at hxd
              simp only [Option.toList_some, List.mem_singleton] at hxd
              subst hxd
              simp only [putT, List.getD_eq_getElem?_getD, List.getElem?_set]
              have : (f i).1.length = TT.length := by rw [hTl, hlenT i (Nat.le_of_lt hi')]
              simp [this]
          · have hput : ∀ (L : List Value) (y : Value), (putT L ops[i].dst y).getD x undef = L.getD x undef := by
              intro L y
              cases hd' : ops[i].dst with
              | none => rfl
              | some dd =>
                rw [hd'] at hxd
                simp only [Option.toList_some, List.mem_singleton] at hxd
                simp [putT, List.getD, List.getElem?_set_ne (Ne.symm hxd)]
            rw [hput]
            refine hT1 x p hp' fun j ft hft hxw => ?_
            have := hx j ft hft hxw
            rw [hset] at this
            by_cases hji : j = i
            · subst hji; rw [e6] at hft; cases hft; exact absurd hxw hxd
            · rwa [if_neg hji] at this
        · -- how many slots
          cases ops[i].dst <;> simp [putT, hTl]
        · -- names
          intro n p hp' hx
          by_cases hxd : n ∈ t.W
          · have hpi : i < p := (hx i _ e6 hxd).1 (by rw [hset]; simp)
            have hbet := hbetN n p (i + 1) hpi hp' (fun j ft h7 h8 hft hxw => by
              have hL := (hx j ft hft hxw).2 h8
              rw [hset, if_neg (by omega)] at hL
              rcases checkAll_spec (masks := masksOf ops.toList []) (all := F) (l := F) (k := 0) rfl hall i j _ ft (Nat.zero_le _) (by omega) e6 hft with hb | hb
              · exact hbehind j (hFj j ft hft) hb hL
              · exact hb.WW n hxd hxw)
            rw [hbet, e4]
            exact g1 n (by rw [← q2]; exact hxd)
          · rw [g2 n (by rw [← q2]; exact hxd)]
            refine hN1 n p hp' fun j ft hft hxw => ?_
            have := hx j ft hft hxw
            rw [hset] at this
            by_cases hji : j = i
            · subst hji; rw [e6] at hft; cases hft; exact absurd hxw hxd
            · rwa [if_neg hji] at this
        · -- whose names there are
          intro m hm
          have hm' : (r.blk m ≠ none ∨ r.val m ≠ none) ∨ ((f i).2.c ≤ m ∧ m < t.c) := by
            rcases hm with hm | hm
            · rcases hp.new.1 m hm with h7 | h7
              · exact .inl (.inl h7)
              · exact .inr h7
            · rcases hp.new.2 m hm with h7 | h7
              · exact .inl (.inr h7)
              · exact .inr h7
          rcases hm' with h7 | h7
          · rcases hrn m h7 with h8 | ⟨j, hj, hL, h9⟩
            · exact .inl h8
            · exact .inr ⟨j, hj, by rw [hset]; split; rfl; exact hL, h9⟩
          · exact .inr ⟨i, hi', by rw [hset]; simp, h7.1, by rw [e3]; exact h7.2⟩
        · -- new names
          refine ⟨fun m hm => ?_, fun m hm => ?_⟩
          · rcases hp.new.1 m hm with h7 | ⟨h7, h8⟩
            · exact hnew.1 m h7
            · exact .inr ⟨by simp only at h7; omega, by simp only at h8; omega⟩
          · rcases hp.new.2 m hm with h7 | ⟨h7, h8⟩
            · exact hnew.2 m h7
            · exact .inr ⟨by simp only at h7; omega, by simp only at h8; omega⟩
        · -- owners
          intro b n hb
          rcases hp.own b n hb with ⟨b', hb'⟩ | ⟨h7, h8⟩
          · exact hown b' n hb'
          · exact .inr ⟨by simp only at h7; omega, by simp only at h8; omega⟩
        · -- fewer are left
          have := unl_set (L := fun k => listed.getD k false) (M := fun k => (listed.setIfInBounds i true).getD k false) (q := i) hLi (by rw [hset]; simp) (fun k hk => by rw [hset]; simp [hk]) hi'
          omega
  refine main ops.size (Array.replicate ops.size false) r0 ow0 s.h T a0 w0 (by simp) ?_ ?_ rfl ?_ ?_ hs0 ha0 hd0 (Env.Le.refl _) (New.refl _ _ _) (Frame.refl _ _) (fun b n e => .inl ⟨b, e⟩) ?_
  · intro j hj hL; simp [Array.getD_eq_getD_getElem?, hj] at hL
  · intro t p hp hx
    have := hbetT t p 0 (Nat.zero_le _) hp (fun j ft _ hjp hft hxw => by
      have hL := (hx j ft hft hxw).2 hjp
      have hj : j < ops.size := by rw [← fF]; exact (List.getElem?_eq_some_iff.1 hft).1
      simp [Array.getD_eq_getD_getElem?, hj] at hL)
    rw [this, f0]
  · intro n p hp hx
    have := hbetN n p 0 (Nat.zero_le _) hp (fun j ft _ hjp hft hxw => by
      have hL := (hx j ft hft hxw).2 hjp
      have hj : j < ops.size := by rw [← fF]; exact (List.getElem?_eq_some_iff.1 hft).1
      simp [Array.getD_eq_getD_getElem?, hj] at hL)
    rw [this, f0]
  · intro m hm; exact .inl hm
  · have : ∀ k (L : Nat → Bool), unl L k ≤ k := by
      intro k L
      induction k with
      | zero => exact Nat.le_refl _
      | succ k ih => simp only [unl]; split <;> omega
    exact this _ _

end
end Go.Sx
