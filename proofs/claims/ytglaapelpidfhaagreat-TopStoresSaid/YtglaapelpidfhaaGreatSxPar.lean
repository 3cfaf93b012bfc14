/- Symbolic executor, part 16: a region that draws its order: one symbolic run in the text's order serves every order, if operations that no edge orders touch different names. No condition. -/
import Derived.Test.YtglaapelpidfhaaGreatSxSnd
namespace Go.Sx

/-! The value of an operation hangs on the slots alone that it looks at. -/
section
variable {P : Program} {T U : List Value}
theorem evO_congr : ∀ {x : Operand}, (∀ t, x = .tmp t → T.getD t undef = U.getD t undef) → evO T x = evO U x
  | .tmp t, h => by simp only [evO]; rw [h t rfl]
  | .const _, _ => rfl
  | .global _, _ => rfl
  | .func _, _ => rfl
theorem evL_congr : ∀ {l : List Operand}, (∀ x ∈ l, evO T x = evO U x) → evL T l = evL U l
  | [], _ => rfl
  | x :: l, h => by simp only [evL]; rw [h x List.mem_cons_self, evL_congr fun y hy => h y (List.mem_cons_of_mem _ hy)]
theorem evP_congr : ∀ {l : List (Nat × Operand)}, (∀ x ∈ l, evO T x.2 = evO U x.2) → evP T l = evP U l
  | [], _ => rfl
  | (i, x) :: l, h => by simp only [evP]; rw [h (i, x) List.mem_cons_self, evP_congr fun y hy => h y (List.mem_cons_of_mem _ hy)]
theorem evQ_congr {o : Option Operand} (h : ∀ x, o = some x → evO T x = evO U x) : evQ T o = evQ U o := by
  cases o with
  | none => rfl
  | some x => simp only [evQ]; rw [h x rfl]
theorem tmpsOf_mem {l : List Operand} {t : Nat} (h : Operand.tmp t ∈ l) : t ∈ tmpsOf l := by
  induction l with
  | nil => cases h
  | cons x l ih =>
    rcases List.mem_cons.1 h with e | h'
    · subst e; exact List.mem_cons_self
    · cases x with
      | tmp u => exact List.mem_cons_of_mem _ (ih h')
      | const _ => exact ih h'
      | global _ => exact ih h'
      | func _ => exact ih h'
theorem exOp_congr {o : Oper} (h : ∀ x ∈ o.op.operands, evO T x = evO U x) : exOp P T o = exOp P U o := by
  obtain ⟨dst, op, ty, pos, after, guard⟩ := o
  cases op with
  | call c =>
    obtain ⟨cal, args, ats⟩ := c
    have ha : evL T args.toList = evL U args.toList := evL_congr fun x hx => h x (by simp [Op.operands, Call.operands, Array.mem_toList_iff.1 hx])
    cases cal with
    | value f =>
      have hf : evO T f = evO U f := h f (by simp [Op.operands, Call.operands])
      simp only [exOp, ha, hf]
    | invoke _ _ => simp only [exOp, ha]
    | builtin b => simp only [exOp, ha]
  | build t ps =>
    have : evP T ps.toList = evP U ps.toList := evP_congr fun x hx => h x.2 (by simp only [Op.operands, List.mem_toArray, List.mem_map]; exact ⟨x, hx, rfl⟩)
    simp only [exOp, this]
  | buildSlice t n ps =>
    have : evP T ps.toList = evP U ps.toList := evP_congr fun x hx => h x.2 (by simp only [Op.operands, List.mem_toArray, List.mem_map]; exact ⟨x, hx, rfl⟩)
    simp only [exOp, this]
  | makeFunc fn f c =>
    have h1 : evL T f.toList = evL U f.toList := evL_congr fun x hx => h x (by simp [Op.operands, Array.mem_toList_iff.1 hx])
    have h2 : evL T c.toList = evL U c.toList := evL_congr fun x hx => h x (by simp [Op.operands, Array.mem_toList_iff.1 hx])
    simp only [exOp, h1, h2]
  | slice t x lo hi mx =>
    have h1 : evO T x = evO U x := h x (by simp [Op.operands])
    have h2 : evQ T lo = evQ U lo := evQ_congr fun y hy => h y (by subst hy; simp [Op.operands])
    have h3 : evQ T hi = evQ U hi := evQ_congr fun y hy => h y (by subst hy; simp [Op.operands])
    have h4 : evQ T mx = evQ U mx := evQ_congr fun y hy => h y (by subst hy; simp [Op.operands])
    simp only [exOp, h1, h2, h3, h4]
  | move x => have h1 := h x (by simp [Op.operands]); simp only [exOp, h1]
  | assign x => have h1 := h x (by simp [Op.operands]); simp only [exOp, h1]
  | pick c x y => have h1 := h c (by simp [Op.operands]); have h2 := h x (by simp [Op.operands]); have h3 := h y (by simp [Op.operands]); simp only [exOp, h1, h2, h3]
  | box t x => have h1 := h x (by simp [Op.operands]); simp only [exOp, h1]
  | load t x => have h1 := h x (by simp [Op.operands]); simp only [exOp, h1]
  | store t x y => have h1 := h x (by simp [Op.operands]); have h2 := h y (by simp [Op.operands]); simp only [exOp, h1, h2]
  | nilCheck x => have h1 := h x (by simp [Op.operands]); simp only [exOp, h1]
  | binOp op t x y yt => have h1 := h x (by simp [Op.operands]); have h2 := h y (by simp [Op.operands]); simp only [exOp, h1, h2]
  | unOp op t x => have h1 := h x (by simp [Op.operands]); simp only [exOp, h1]
  | makeInterface t x => have h1 := h x (by simp [Op.operands]); simp only [exOp, h1]
  | makeSlice t x y => have h1 := h x (by simp [Op.operands]); have h2 := h y (by simp [Op.operands]); simp only [exOp, h1, h2]
  | fieldAddr t x f => have h1 := h x (by simp [Op.operands]); simp only [exOp, h1]
  | field t x f => have h1 := h x (by simp [Op.operands]); simp only [exOp, h1]
  | indexAddr t x y => have h1 := h x (by simp [Op.operands]); have h2 := h y (by simp [Op.operands]); simp only [exOp, h1, h2]
  | index t x y => have h1 := h x (by simp [Op.operands]); have h2 := h y (by simp [Op.operands]); simp only [exOp, h1, h2]
  | lookup t x y ok => have h1 := h x (by simp [Op.operands]); have h2 := h y (by simp [Op.operands]); simp only [exOp, h1, h2]
  | mapUpdate t m k v => have h1 := h m (by simp [Op.operands]); have h2 := h k (by simp [Op.operands]); have h3 := h v (by simp [Op.operands]); simp only [exOp, h1, h2, h3]
  | extract x i => have h1 := h x (by simp [Op.operands]); simp only [exOp, h1]
  | makeMap t res => cases res <;> rfl
  | _ => rfl
theorem stepV_congr {rec : Rec} {ops : List Oper} {o : Oper} (h : ∀ t ∈ looks ops o, T.getD t undef = U.getD t undef) : stepV P rec ops T o = stepV P rec ops U o := by
  have h1 : wantX ops T o = wantX ops U o := by
    unfold wantX
    cases hg : o.guard with
    | none => rfl
    | some q =>
      obtain ⟨j, want⟩ := q
      simp only
      cases hd : (ops[j]?).bind (·.dst) with
      | none => rfl
      | some d => simp only; rw [h d (by simp [looks, hg, hd])]
  have h2 : exOp P T o = exOp P U o := exOp_congr fun x hx => evO_congr fun t ht => h t (by
    subst ht
    exact List.mem_append_right _ (tmpsOf_mem (Array.mem_toList_iff.2 hx)))
  unfold stepV runOp
  rw [h1, h2]
end

/-! Which operations stand ahead. -/
theorem hasN_iff {n : Nat} : ∀ {l : List Nat}, hasN n l = true ↔ n ∈ l
  | [] => by simp [hasN]
  | m :: l => by
    simp only [hasN, nbeq]
    by_cases h : m = n
    · simp [h]
    · simp [h, hasN_iff, Ne.symm h]
theorem disj_iff : ∀ {l m : List Nat}, disj l m = true → ∀ n, n ∈ l → n ∉ m
  | [], _, _, n, h => by cases h
  | x :: l, m, h, n, hn => by
    simp only [disj] at h
    cases hx : hasN x m with
    | true => simp [hx] at h
    | false =>
      simp only [hx] at h
      rcases List.mem_cons.1 hn with rfl | hn
      · intro hm; rw [hasN_iff.2 hm] at hx; cases hx
      · exact disj_iff h n hn
structure Indep (x y : Foot) : Prop where
  tr : ∀ t, t ∈ x.tw → t ∉ y.tr
  tw : ∀ t, t ∈ x.tw → t ∉ y.tw
  rt : ∀ t, t ∈ x.tr → t ∉ y.tw
  WR : ∀ n, n ∈ x.W → n ∉ y.R
  WW : ∀ n, n ∈ x.W → n ∉ y.W
  RW : ∀ n, n ∈ x.R → n ∉ y.W
theorem indep_of {x y : Foot} (h : indep x y = true) : Indep x y := by
  simp only [indep, Bool.and_eq_true] at h
  exact ⟨disj_iff h.1, disj_iff h.2.1, disj_iff h.2.2.1, disj_iff h.2.2.2.1, disj_iff h.2.2.2.2.1, disj_iff h.2.2.2.2.2⟩
theorem checkWith_spec {j mask : Nat} {y : Foot} : ∀ {l : List Foot} {k : Nat}, checkWith j mask y k l = true → ∀ (i : Nat) (x : Foot), l[i]? = some x → Nat.testBit mask (k + i) = true ∨ Indep x y
  | [], _, _, i, x, h => by simp at h
  | z :: l, k, h, i, x, hx => by
    simp only [checkWith, Bool.and_eq_true, Bool.or_eq_true] at h
    cases i with
    | zero => simp at hx; subst hx; exact h.1.imp id indep_of
    | succ i =>
      have := checkWith_spec h.2 i x (by simpa using hx)
      rw [show k + 1 + i = k + (i + 1) from by omega] at this
      exact this
theorem checkAll_spec {masks : List Nat} {all : List Foot} : ∀ {l : List Foot} {k : Nat}, all.drop k = l → checkAll masks all k l = true → ∀ (i j : Nat) (x y : Foot), k ≤ j → i < j → all[i]? = some x → all[j]? = some y → Nat.testBit (masks.getD j 0) i = true ∨ Indep x y
  | [], k, hl, _, i, j, x, y, hk, hij, hx, hy => by
    have h1 := congrArg List.length hl
    simp at h1
    have h2 := (List.getElem?_eq_some_iff.1 hy).1
    omega
  | z :: l, k, hl, h, i, j, x, y, hk, hij, hx, hy => by
    simp only [checkAll, Bool.and_eq_true] at h
    by_cases e : j = k
    · subst e
      have hz : z = y := by
        have := congrArg (·[0]?) hl
        simp at this
        rw [hy] at this; exact (Option.some.inj this).symm
      subst hz
      have := checkWith_spec h.1 i x (by rw [List.getElem?_take, if_pos hij]; exact hx)
      rwa [Nat.zero_add] at this
    · exact checkAll_spec (k := k + 1) (by have := congrArg (List.drop 1) hl; simpa [List.drop_drop] using this) h.2 i j x y (by omega) hij hx hy

/-- A set of operations that holds with each one those that its edges name. -/
def ClosedAt (L : Nat → Bool) (o : Oper) : Prop := ∀ e ∈ o.after.toList, Region.binds .any e = true → L e.on = true
theorem ahead_spec {L : Nat → Bool} {masks : List Nat} (hm : ∀ k, L k = true → ∀ i, Nat.testBit (masks.getD k 0) i = true → L i = true) : ∀ {l : List Edge} {m : Nat}, (∀ i, Nat.testBit m i = true → L i = true) → (∀ e ∈ l, Region.binds .any e = true → L e.on = true) →
    ∀ i, Nat.testBit (ahead masks l m) i = true → L i = true
  | [], m, h, _, i, hi => h i hi
  | e :: l, m, h, he, i, hi => by
    simp only [ahead] at hi
    cases hb : Region.binds .any e with
    | false =>
      simp only [hb] at hi
      exact ahead_spec hm h (fun x hx => he x (List.mem_cons_of_mem _ hx)) i hi
    | true =>
      simp only [hb] at hi
      refine ahead_spec hm (fun k hk => ?_) (fun x hx => he x (List.mem_cons_of_mem _ hx)) i hi
      rw [Nat.testBit_or, Nat.testBit_or] at hk
      simp only [Bool.or_eq_true] at hk
      have hon := he e List.mem_cons_self hb
      rcases hk with hk | hk | hk
      · exact h k hk
      · rw [Nat.testBit_two_pow] at hk
        simp at hk; subst hk; exact hon
      · exact hm _ hon k hk
theorem masksOf_length : ∀ (l : List Oper) (ms : List Nat), (masksOf l ms).length = ms.length + l.length
  | [], ms => by simp [masksOf]
  | o :: l, ms => by simp [masksOf, masksOf_length l]; omega
theorem masksOf_prefix : ∀ (l : List Oper) (ms : List Nat) (k : Nat), k < ms.length → (masksOf l ms).getD k 0 = ms.getD k 0
  | [], ms, k, _ => rfl
  | o :: l, ms, k, h => by
    simp only [masksOf]
    rw [masksOf_prefix l _ k (by simp; omega)]
    simp [List.getD, List.getElem?_append_left h]
theorem masksOf_spec (ops : List Oper) (L : Nat → Bool) : ∀ (l : List Oper) (ms : List Nat), ops.drop ms.length = l → edgesOk ms.length l = true → (∀ k, k < ms.length → ClosedAt L (ops.getD k default) → (∀ j, j < k → L j = true → ClosedAt L (ops.getD j default)) → ∀ i, Nat.testBit (ms.getD k 0) i = true → L i = true) →
    ∀ k, k < ops.length → ClosedAt L (ops.getD k default) → (∀ j, j < k → L j = true → ClosedAt L (ops.getD j default)) → ∀ i, Nat.testBit ((masksOf l ms).getD k 0) i = true → L i = true
  | [], ms, hl, _, hms, k, hk, hc, hj, i, hi => by
    have h1 := congrArg List.length hl
    simp at h1
    exact hms k (by omega) hc hj i hi
  | o :: l, ms, hl, hed, hms, k, hk, hc, hj, i, hi => by
    simp only [edgesOk, Bool.and_eq_true, List.all_eq_true] at hed
    have ho : ops[ms.length]? = some o := by
      have := congrArg (·[0]?) hl
      simpa using this
    refine masksOf_spec ops L l (ms ++ [ahead ms o.after.toList 0]) (by have := congrArg (List.drop 1) hl; simpa [List.drop_drop] using this) (by simpa using hed.2) (fun q hq hcq hjq x hx => ?_) k hk hc hj i (by simpa [masksOf] using hi)
    simp only [List.length_append, List.length_cons, List.length_nil] at hq
    by_cases e : q = ms.length
    · subst e
      have hgd : (ms ++ [ahead ms o.after.toList 0]).getD ms.length 0 = ahead ms o.after.toList 0 := by simp [List.getD]
      rw [hgd] at hx
      have hod : ops.getD ms.length default = o := by simp [List.getD, ho]
      rw [hod] at hcq
      -- only masks of earlier operations are looked at
      have key : ∀ (es : List Edge) (m : Nat), (∀ e ∈ es, Region.binds .any e = true → e.on < ms.length ∧ L e.on = true) → (∀ i, Nat.testBit m i = true → L i = true) → ∀ i, Nat.testBit (ahead ms es m) i = true → L i = true := by
        intro es
        induction es with
        | nil => intro m _ hm i hi; exact hm i hi
        | cons e es ih =>
          intro m he hm i hi
          simp only [ahead] at hi
          cases hb : Region.binds .any e with
          | false => simp only [hb] at hi; exact ih m (fun x hx => he x (List.mem_cons_of_mem _ hx)) hm i hi
          | true =>
            simp only [hb] at hi
            refine ih _ (fun x hx => he x (List.mem_cons_of_mem _ hx)) (fun k hk => ?_) i hi
            rw [Nat.testBit_or, Nat.testBit_or] at hk
            simp only [Bool.or_eq_true] at hk
            obtain ⟨h1, h2⟩ := he e List.mem_cons_self hb
            rcases hk with hk | hk | hk
            · exact hm k hk
            · rw [Nat.testBit_two_pow] at hk
              simp at hk; subst hk; exact h2
            · exact hms e.on h1 (hjq e.on h1 h2) (fun j hj' => hjq j (by omega)) k hk
      refine key o.after.toList 0 (fun e he hb => ⟨?_, hcq e he hb⟩) (fun i hi => by simp at hi) x hx
      have := hed.1 e he
      simp only [hb, Bool.not_true, Bool.false_or] at this
      exact Nat.le_of_ble_eq_true this
    · have hq' : q < ms.length := by omega
      have hgd : (ms ++ [ahead ms o.after.toList 0]).getD q 0 = ms.getD q 0 := by simp [List.getD, List.getElem?_append_left hq']
      rw [hgd] at hx
      exact hms q hq' hcq hjq x hx

end Go.Sx
