/- The plain law of EngineChecks: what the engine reads of a line, and what the document's shapes say, are one. No program in sight. No condition. -/

namespace Go.Eng
def s_call : ByteArray := ⟨#[99, 97, 108, 108]⟩
def s_act : ByteArray := ⟨#[97, 99, 116]⟩
def s_step : ByteArray := ⟨#[115, 116, 101, 112]⟩
def s_turn : ByteArray := ⟨#[116, 117, 114, 110]⟩
def s_drain : ByteArray := ⟨#[100, 114, 97, 105, 110]⟩
def s_scan : ByteArray := ⟨#[115, 99, 97, 110]⟩
def s_stat : ByteArray := ⟨#[115, 116, 97, 116]⟩
def s_get : ByteArray := ⟨#[103, 101, 116]⟩
def s_insert : ByteArray := ⟨#[105, 110, 115, 101, 114, 116]⟩
def s_update : ByteArray := ⟨#[117, 112, 100, 97, 116, 101]⟩
def s_upsert : ByteArray := ⟨#[117, 112, 115, 101, 114, 116]⟩
def s_delete : ByteArray := ⟨#[100, 101, 108, 101, 116, 101]⟩
def s_begin : ByteArray := ⟨#[98, 101, 103, 105, 110]⟩
def s_look : ByteArray := ⟨#[108, 111, 111, 107]⟩
def s_read : ByteArray := ⟨#[114, 101, 97, 100]⟩
def s_put : ByteArray := ⟨#[112, 117, 116]⟩
def s_drop : ByteArray := ⟨#[100, 114, 111, 112]⟩
def s_range : ByteArray := ⟨#[114, 97, 110, 103, 101]⟩
def s_commit : ByteArray := ⟨#[99, 111, 109, 109, 105, 116]⟩
def s_abort : ByteArray := ⟨#[97, 98, 111, 114, 116]⟩
def s_flush : ByteArray := ⟨#[102, 108, 117, 115, 104]⟩
def s_limits : ByteArray := ⟨#[108, 105, 109, 105, 116, 115]⟩
def k_t : ByteArray := ⟨#[116]⟩
def k_w : ByteArray := ⟨#[119]⟩
def k_v : ByteArray := ⟨#[118]⟩
def k_x : ByteArray := ⟨#[120]⟩
def s_dash : ByteArray := ⟨#[45]⟩
/-- A part's number. -/
def numL : List UInt8 → Int → Option Int
  | [], n => some n
  | c :: r, n => if c < 48 ∨ 57 < c then none else numL r (10 * n + ((c.toNat : Int) - 48))
def numB (s : ByteArray) : Option Int :=
  if s.data.toList.length < 1 ∨ s.data.toList.length > 13 ∨ (s.data.toList.getD 0 0 = 48 ∧ s.data.toList.length > 1) then none else numL s.data.toList 0
def okC (c : UInt8) : Bool := (97 ≤ c && c ≤ 122) || (48 ≤ c && c ≤ 57)
def wordB (s : ByteArray) : Bool := s.data.toList.all okC && decide (1 ≤ s.data.toList.length) && decide (s.data.toList.length ≤ 16)
def valB (s : ByteArray) : Bool := decide (s = s_dash) || wordB s
def thrB (t : Int) (s : ByteArray) : Bool := match numB s with
  | some n => decide (n < t)
  | none => false
def timB (s : ByteArray) : Bool := match numB s with
  | some n => decide (n ≤ 16384)
  | none => false
/-- The document's shapes. -/
def fitsB (t : Int) (p k : ByteArray) : Bool :=
  if k = k_t then thrB t p else if k = k_x then timB p else if k = k_w then wordB p else if k = k_v then valB p else decide (p = k)
def fitsL (t : Int) : List ByteArray → List ByteArray → Bool
  | p :: ps, k :: ks => fitsB t p k && fitsL t ps ks
  | _, _ => true
variable (before : ByteArray → ByteArray → Bool)
def spanB : List ByteArray → Bool
  | [_, _, p2, a, b] => !decide (p2 = s_range) || before a b
  | _ => true
def shapeB (t : Int) (ps ks : List ByteArray) : Bool := decide (ps.length = ks.length) && fitsL t ps ks && spanB before ps
def shapes : List (List ByteArray) := [[s_call, k_t, s_get, k_w],
  [s_call, k_t, s_insert, k_w, k_v],
  [s_call, k_t, s_update, k_w, k_v],
  [s_call, k_t, s_upsert, k_w, k_v],
  [s_call, k_t, s_delete, k_w],
  [s_act, k_t, s_begin],
  [s_act, k_t, s_look],
  [s_act, k_t, s_read, k_w],
  [s_act, k_t, s_put, k_w, k_v],
  [s_act, k_t, s_drop, k_w],
  [s_act, k_t, s_range, k_w, k_w],
  [s_act, k_t, s_commit],
  [s_act, k_t, s_abort],
  [s_act, k_t, s_flush],
  [s_step, k_t, k_x],
  [s_turn, k_t, k_x],
  [s_drain],
  [s_scan],
  [s_stat]]
def lineR (t : Int) (ps : List ByteArray) : Bool := shapes.any (shapeB before t ps)
/-- What the engine reads. -/
def callE (name : ByteArray) (r : List ByteArray) : Bool :=
  if name = s_get ∨ name = s_delete then (match r with
    | [w] => wordB w
    | _ => false)
  else if name = s_insert ∨ name = s_update ∨ name = s_upsert then (match r with
    | [w, v] => wordB w && valB v
    | _ => false)
  else false
def actE (name : ByteArray) (r : List ByteArray) : Bool :=
  if name = s_begin ∨ name = s_look ∨ name = s_commit ∨ name = s_abort ∨ name = s_flush then r.isEmpty
  else if name = s_read ∨ name = s_drop then (match r with
    | [w] => wordB w
    | _ => false)
  else if name = s_put then (match r with
    | [w, v] => wordB w && valB v
    | _ => false)
  else if name = s_range then (match r with
    | [a, b] => wordB a && wordB b && before a b
    | _ => false)
  else false
def lineE (t : Int) : List ByteArray → Bool
  | [] => false
  | p0 :: rest =>
    if p0 = s_drain ∨ p0 = s_scan ∨ p0 = s_stat then rest.isEmpty
    else match rest with
      | p1 :: p2 :: r =>
        if thrB t p1 then
          if p0 = s_call then callE p2 r
          else if p0 = s_act then actE before p2 r
          else if p0 = s_step ∨ p0 = s_turn then timB p2 && r.isEmpty
          else false
        else false
      | _ => false
theorem fits_t (t : Int) (p : ByteArray) : fitsB t p k_t = thrB t p := by
  unfold fitsB
  simp (decide := true) only [if_true, if_false]
theorem fits_x (t : Int) (p : ByteArray) : fitsB t p k_x = timB p := by
  unfold fitsB
  simp (decide := true) only [if_true, if_false]
theorem fits_w (t : Int) (p : ByteArray) : fitsB t p k_w = wordB p := by
  unfold fitsB
  simp (decide := true) only [if_true, if_false]
theorem fits_v (t : Int) (p : ByteArray) : fitsB t p k_v = valB p := by
  unfold fitsB
  simp (decide := true) only [if_true, if_false]
theorem fits_call (t : Int) (p : ByteArray) : fitsB t p s_call = decide (p = s_call) := by
  unfold fitsB
  simp (decide := true) only [if_false]
theorem fits_act (t : Int) (p : ByteArray) : fitsB t p s_act = decide (p = s_act) := by
  unfold fitsB
  simp (decide := true) only [if_false]
theorem fits_step (t : Int) (p : ByteArray) : fitsB t p s_step = decide (p = s_step) := by
  unfold fitsB
  simp (decide := true) only [if_false]
theorem fits_turn (t : Int) (p : ByteArray) : fitsB t p s_turn = decide (p = s_turn) := by
  unfold fitsB
  simp (decide := true) only [if_false]
theorem fits_drain (t : Int) (p : ByteArray) : fitsB t p s_drain = decide (p = s_drain) := by
  unfold fitsB
  simp (decide := true) only [if_false]
theorem fits_scan (t : Int) (p : ByteArray) : fitsB t p s_scan = decide (p = s_scan) := by
  unfold fitsB
  simp (decide := true) only [if_false]
theorem fits_stat (t : Int) (p : ByteArray) : fitsB t p s_stat = decide (p = s_stat) := by
  unfold fitsB
  simp (decide := true) only [if_false]
theorem fits_get (t : Int) (p : ByteArray) : fitsB t p s_get = decide (p = s_get) := by
  unfold fitsB
  simp (decide := true) only [if_false]
theorem fits_insert (t : Int) (p : ByteArray) : fitsB t p s_insert = decide (p = s_insert) := by
  unfold fitsB
  simp (decide := true) only [if_false]
theorem fits_update (t : Int) (p : ByteArray) : fitsB t p s_update = decide (p = s_update) := by
  unfold fitsB
  simp (decide := true) only [if_false]
theorem fits_upsert (t : Int) (p : ByteArray) : fitsB t p s_upsert = decide (p = s_upsert) := by
  unfold fitsB
  simp (decide := true) only [if_false]
theorem fits_delete (t : Int) (p : ByteArray) : fitsB t p s_delete = decide (p = s_delete) := by
  unfold fitsB
  simp (decide := true) only [if_false]
theorem fits_begin (t : Int) (p : ByteArray) : fitsB t p s_begin = decide (p = s_begin) := by
  unfold fitsB
  simp (decide := true) only [if_false]
theorem fits_look (t : Int) (p : ByteArray) : fitsB t p s_look = decide (p = s_look) := by
  unfold fitsB
  simp (decide := true) only [if_false]
theorem fits_read (t : Int) (p : ByteArray) : fitsB t p s_read = decide (p = s_read) := by
  unfold fitsB
  simp (decide := true) only [if_false]
theorem fits_put (t : Int) (p : ByteArray) : fitsB t p s_put = decide (p = s_put) := by
  unfold fitsB
  simp (decide := true) only [if_false]
theorem fits_drop (t : Int) (p : ByteArray) : fitsB t p s_drop = decide (p = s_drop) := by
  unfold fitsB
  simp (decide := true) only [if_false]
theorem fits_range (t : Int) (p : ByteArray) : fitsB t p s_range = decide (p = s_range) := by
  unfold fitsB
  simp (decide := true) only [if_false]
theorem fits_commit (t : Int) (p : ByteArray) : fitsB t p s_commit = decide (p = s_commit) := by
  unfold fitsB
  simp (decide := true) only [if_false]
theorem fits_abort (t : Int) (p : ByteArray) : fitsB t p s_abort = decide (p = s_abort) := by
  unfold fitsB
  simp (decide := true) only [if_false]
theorem fits_flush (t : Int) (p : ByteArray) : fitsB t p s_flush = decide (p = s_flush) := by
  unfold fitsB
  simp (decide := true) only [if_false]
theorem lineE_eq (t : Int) (ps : List ByteArray) : lineE before t ps = lineR before t ps := by
  match ps with
  | [] => rfl
  | [p0] =>
    simp only [lineE, lineR, shapes, shapeB, fitsL, spanB, List.any_cons, List.any_nil, List.length_cons, List.length_nil, fits_t, fits_x, fits_w, fits_v, fits_call, fits_act, fits_step, fits_turn, fits_drain, fits_scan, fits_stat, fits_get, fits_insert, fits_update, fits_upsert, fits_delete, fits_begin, fits_look, fits_read, fits_put, fits_drop, fits_range, fits_commit, fits_abort, fits_flush]
    by_cases h1 : p0 = s_drain
    · simp [h1]
    by_cases h2 : p0 = s_scan
    · simp [h2]
    by_cases h3 : p0 = s_stat
    · simp [h3]
    simp [h1, h2, h3]
  | [p0, p1] => simp [lineE, lineR, shapes, shapeB]
  | [p0, p1, p2] =>
    simp only [lineE, lineR, shapes, shapeB, fitsL, spanB, List.any_cons, List.any_nil, List.length_cons, List.length_nil, callE, actE, fits_t, fits_x, fits_w, fits_v, fits_call, fits_act, fits_step, fits_turn, fits_drain, fits_scan, fits_stat, fits_get, fits_insert, fits_update, fits_upsert, fits_delete, fits_begin, fits_look, fits_read, fits_put, fits_drop, fits_range, fits_commit, fits_abort, fits_flush]
    by_cases h1 : p0 = s_drain ∨ p0 = s_scan ∨ p0 = s_stat
    · rcases h1 with rfl | rfl | rfl <;> simp (decide := true)
    simp only [not_or] at h1
    cases ht : thrB t p1 with
    | false => simp [h1]
    | true =>
    by_cases h2 : p0 = s_call
    · subst h2; by_cases g1 : p2 = s_get ∨ p2 = s_delete <;> by_cases g2 : p2 = s_insert ∨ p2 = s_update ∨ p2 = s_upsert <;> simp (decide := true) [g1, g2, h1]
    by_cases h3 : p0 = s_act
    · subst h3
      by_cases g1 : p2 = s_begin <;> by_cases g2 : p2 = s_look <;> by_cases g3 : p2 = s_commit <;> by_cases g4 : p2 = s_abort <;> by_cases g5 : p2 = s_flush <;> simp (decide := true) [g1, g2, g3, g4, g5, h1]
    by_cases h4 : p0 = s_step
    · subst h4; simp (decide := true) [h1]
    by_cases h5 : p0 = s_turn
    · subst h5; simp (decide := true) [h1]
    simp [h1, h2, h3, h4, h5]
  | [p0, p1, p2, p3] =>
    simp only [lineE, lineR, shapes, shapeB, fitsL, spanB, List.any_cons, List.any_nil, List.length_cons, List.length_nil, callE, actE, fits_t, fits_x, fits_w, fits_v, fits_call, fits_act, fits_step, fits_turn, fits_drain, fits_scan, fits_stat, fits_get, fits_insert, fits_update, fits_upsert, fits_delete, fits_begin, fits_look, fits_read, fits_put, fits_drop, fits_range, fits_commit, fits_abort, fits_flush]
    by_cases h1 : p0 = s_drain ∨ p0 = s_scan ∨ p0 = s_stat
    · rcases h1 with rfl | rfl | rfl <;> simp (decide := true)
    simp only [not_or] at h1
    cases ht : thrB t p1 with
    | false => simp [h1]
    | true =>
    by_cases h2 : p0 = s_call
    · subst h2
      by_cases g1 : p2 = s_get
      · subst g1; simp (decide := true)
      by_cases g2 : p2 = s_delete
      · subst g2; simp (decide := true)
      by_cases g3 : p2 = s_insert ∨ p2 = s_update ∨ p2 = s_upsert <;> simp (decide := true) [g1, g2, g3, h1]
    by_cases h3 : p0 = s_act
    · subst h3
      by_cases g1 : p2 = s_read
      · subst g1; simp (decide := true)
      by_cases g2 : p2 = s_drop
      · subst g2; simp (decide := true)
      by_cases g3 : p2 = s_begin ∨ p2 = s_look ∨ p2 = s_commit ∨ p2 = s_abort ∨ p2 = s_flush
      · rcases g3 with rfl | rfl | rfl | rfl | rfl <;> simp (decide := true)
      by_cases g4 : p2 = s_put <;> by_cases g5 : p2 = s_range <;> simp (decide := true) [g1, g2, g3, g4, g5, h1]
    by_cases h4 : p0 = s_step
    · subst h4; simp (decide := true) [h1]
    by_cases h5 : p0 = s_turn
    · subst h5; simp (decide := true) [h1]
    simp [h1, h2, h3, h4, h5]
  | [p0, p1, p2, p3, p4] =>
    simp only [lineE, lineR, shapes, shapeB, fitsL, spanB, List.any_cons, List.any_nil, List.length_cons, List.length_nil, callE, actE, fits_t, fits_x, fits_w, fits_v, fits_call, fits_act, fits_step, fits_turn, fits_drain, fits_scan, fits_stat, fits_get, fits_insert, fits_update, fits_upsert, fits_delete, fits_begin, fits_look, fits_read, fits_put, fits_drop, fits_range, fits_commit, fits_abort, fits_flush]
    by_cases h1 : p0 = s_drain ∨ p0 = s_scan ∨ p0 = s_stat
    · rcases h1 with rfl | rfl | rfl <;> simp (decide := true)
    simp only [not_or] at h1
    cases ht : thrB t p1 with
    | false => simp [h1]
    | true =>
    by_cases h2 : p0 = s_call
    · subst h2
      by_cases g1 : p2 = s_insert
      · subst g1; simp (decide := true)
      by_cases g2 : p2 = s_update
      · subst g2; simp (decide := true)
      by_cases g3 : p2 = s_upsert
      · subst g3; simp (decide := true)
      by_cases g4 : p2 = s_get ∨ p2 = s_delete <;> simp (decide := true) [g1, g2, g3, g4, h1]
    by_cases h3 : p0 = s_act
    · subst h3
      by_cases g1 : p2 = s_put
      · subst g1; simp (decide := true)
      by_cases g2 : p2 = s_range
      · subst g2; simp (decide := true)
      by_cases g3 : p2 = s_begin ∨ p2 = s_look ∨ p2 = s_commit ∨ p2 = s_abort ∨ p2 = s_flush
      · rcases g3 with rfl | rfl | rfl | rfl | rfl <;> simp (decide := true)
      by_cases g4 : p2 = s_read ∨ p2 = s_drop <;> simp (decide := true) [g1, g2, g3, g4, h1]
    by_cases h4 : p0 = s_step
    · subst h4; simp (decide := true) [h1]
    by_cases h5 : p0 = s_turn
    · subst h5; simp (decide := true) [h1]
    simp [h1, h2, h3, h4, h5]
  | p0 :: p1 :: p2 :: p3 :: p4 :: p5 :: r =>
    have e : lineR before t (p0 :: p1 :: p2 :: p3 :: p4 :: p5 :: r) = false := by simp [lineR, shapes, shapeB]
    rw [e]
    simp only [lineE, callE, actE]
    repeat' split
    all_goals first | rfl | simp_all
end Go.Eng
