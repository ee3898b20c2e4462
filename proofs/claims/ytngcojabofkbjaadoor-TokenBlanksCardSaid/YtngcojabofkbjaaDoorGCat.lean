/- The plain reader's laws: where it stands doesn't matter, nor how much fuel it has; what stands behind a line feed is read as if it stood alone. -/
import Derived.Test.YtngcojabofkbjaaDoorPx0
import Derived.Test.YtngcojabofkbjaaDoorGLex
namespace Go.Proofs.YtngcojabofkbjaaDoor.P
open Go.RowKit Go.Proofs.YtngcojabofkbjaaDoorW.PrintWords Go.Proofs.YtngcojabofkbjaaDoorW.PrintLast Go.Proofs.YtngcojabofkbjaaDoorW.PrintMore
attribute [local go_sem] max2_int min2_int max_two min_two max_three min_three max_four min_four   -- for this text's walks alone
set_option linter.unusedVariables false
set_option linter.unusedSimpArgs false

def shT (c : Nat) (t : TokS) : TokS := ⟨t.f0, t.f1, t.f2, t.f3 + c⟩
def shE (c : Nat) : List TokS ⊕ (Nat × Int) → List TokS ⊕ (Nat × Int)
  | .inl ts => .inl (ts.map (shT c))
  | .inr (p, e) => .inr (p + c, e)
def preE (ts : List TokS) : List TokS ⊕ (Nat × Int) → List TokS ⊕ (Nat × Int)
  | .inl us => .inl (ts ++ us)
  | .inr e => .inr e
theorem lexL_step (f m p : Nat) (b : UInt8) (r : List UInt8) : lexL (f + 1) m p (b :: r) = match lex1 (b :: r) with
    | none => .inr (p, 4)
    | some (kd, t, v, n) => if m = 0 then .inr (p, 2) else
      preE [⟨kd, ⟨t.toArray⟩, v, p⟩] (lexL f (m - 1) (p + n + skipN false ((b :: r).drop n)) (((b :: r).drop n).drop (skipN false ((b :: r).drop n)))) := by
  simp only [lexL]
  split
  · rename_i h; simp only [h]
  · rename_i kd t v n h
    simp only [h]
    split
    · rfl
    · split <;> rename_i h2 <;> rw [h2] <;> rfl
theorem lexL_shift (c : Nat) : ∀ f m p l, lexL f m (p + c) l = shE c (lexL f m p l) := by
  intro f
  induction f with
  | zero => intro m p l; rfl
  | succ f ih =>
    intro m p l
    cases l with
    | nil => rfl
    | cons b r =>
      rw [lexL_step, lexL_step]
      cases lex1 (b :: r) with
      | none => rfl
      | some x =>
        obtain ⟨kd, t, v, n⟩ := x
        simp only
        split
        · rfl
        · rw [show p + c + n + skipN false (List.drop n (b :: r)) = p + n + skipN false (List.drop n (b :: r)) + c from by omega, ih]
          cases lexL f (m - 1) (p + n + skipN false (List.drop n (b :: r))) (List.drop (skipN false (List.drop n (b :: r))) (List.drop n (b :: r))) with
          | inl ts => simp [shE, preE, shT]
          | inr e => rfl
theorem lexL_fuel : ∀ f g m p l, l.length < f → l.length < g → lexL f m p l = lexL g m p l := by
  intro f
  induction f with
  | zero => intro g m p l h _; omega
  | succ f ih =>
    intro g m p l hf hg
    obtain ⟨g, rfl⟩ : ∃ m, g = m + 1 := ⟨g - 1, by omega⟩
    cases l with
    | nil => rfl
    | cons b r =>
      rw [lexL_step, lexL_step]
      cases h : lex1 (b :: r) with
      | none => rfl
      | some x =>
        obtain ⟨kd, t, v, n⟩ := x
        obtain ⟨n1, n2⟩ := lex1_le _ _ _ _ _ h
        simp only
        split
        · rfl
        · rw [ih g]
          · simp only [List.length_drop]; omega
          · simp only [List.length_drop]; omega
theorem lexL_limit : ∀ f m M p l, l.length ≤ m → l.length ≤ M → lexL f m p l = lexL f M p l := by
  intro f
  induction f with
  | zero => intro m M p l _ _; rfl
  | succ f ih =>
    intro m M p l hm hM
    cases l with
    | nil => rfl
    | cons b r =>
      rw [lexL_step, lexL_step]
      cases h : lex1 (b :: r) with
      | none => rfl
      | some x =>
        obtain ⟨kd, t, v, n⟩ := x
        obtain ⟨n1, n2⟩ := lex1_le _ _ _ _ _ h
        simp only [List.length_cons] at hm hM
        simp only
        rw [if_neg (by omega), if_neg (by omega), ih (m - 1) (M - 1)]
        · simp only [List.length_drop, List.length_cons]; omega
        · simp only [List.length_drop, List.length_cons]; omega
/-- From a token's first byte on. -/
def lx (m p : Nat) (l : List UInt8) : List TokS ⊕ (Nat × Int) := lexL (l.length + 1) m p l
/-- From any place on: blanks first. -/
def scan (m p : Nat) (l : List UInt8) : List TokS ⊕ (Nat × Int) := lx m (p + skipN false l) (l.drop (skipN false l))
theorem lx_nil (m p : Nat) : lx m p [] = .inl [] := rfl
theorem lx_cons (m p : Nat) (b : UInt8) (r : List UInt8) : lx m p (b :: r) = match lex1 (b :: r) with
    | none => .inr (p, 4)
    | some (kd, t, v, n) => if m = 0 then .inr (p, 2) else preE [⟨kd, ⟨t.toArray⟩, v, p⟩] (scan (m - 1) (p + n) ((b :: r).drop n)) := by
  unfold lx scan
  rw [lexL_step]
  cases h : lex1 (b :: r) with
  | none => rfl
  | some x =>
    obtain ⟨kd, t, v, n⟩ := x
    obtain ⟨n1, n2⟩ := lex1_le _ _ _ _ _ h
    simp only
    split
    · rfl
    · unfold lx
      rw [lexL_fuel _ ((((b :: r).drop n).drop (skipN false ((b :: r).drop n))).length + 1)]
      · simp only [List.length_drop]; omega
      · omega
theorem all_scan (l : List UInt8) : allL l = scan 1000 0 l := by
  unfold allL scan lx
  rw [Nat.zero_add]
  exact lexL_fuel _ _ _ _ _ (by simp only [List.length_drop]; omega) (by omega)
theorem scan_shift (c m p : Nat) (l : List UInt8) : scan m (p + c) l = shE c (scan m p l) := by
  unfold scan lx
  rw [show p + c + skipN false l = p + skipN false l + c from by omega, lexL_shift]
theorem scan_limit (m M p : Nat) (l : List UInt8) (h : l.length ≤ m) (H : l.length ≤ M) : scan m p l = scan M p l := by
  unfold scan lx
  exact lexL_limit _ _ _ _ _ (by simp only [List.length_drop]; omega) (by simp only [List.length_drop]; omega)
theorem skipN_t (x : UInt8) (r : List UInt8) : skipN true (x :: r) = 1 + skipN (x != 10) r := by simp only [skipN]
theorem skipN_f (x : UInt8) (r : List UInt8) : skipN false (x :: r) = if blankB x then 1 + skipN false r else if x = 47 ∧ r.head? = some 47 then 1 + skipN true r else 0 := by simp only [skipN]
theorem lf_step (u v n q : Nat) (h : u = if v = n then n + 1 + q else v) : 1 + u = if 1 + v = n + 1 then n + 1 + 1 + q else 1 + v := by
  by_cases e : v = n
  · rw [if_pos e] at h; rw [if_pos (by omega)]; omega
  · rw [if_neg e] at h; rw [if_neg (by omega)]; omega
theorem skipN_lf (a b : List UInt8) : ∀ c, skipN c (a ++ 10 :: b) = if skipN c a = a.length then a.length + 1 + skipN false b else skipN c a := by
  induction a with
  | nil => intro c; cases c <;> simp [skipN, blankB]
  | cons x r ih =>
    intro c
    rw [List.cons_append, List.length_cons]
    cases c
    · rw [skipN_f, skipN_f]
      by_cases hb : blankB x = true
      · rw [if_pos hb, if_pos hb]; exact lf_step _ _ _ _ (ih false)
      · rw [if_neg hb, if_neg hb]
        by_cases hc : x = 47 ∧ r.head? = some 47
        · have hc2 : x = 47 ∧ (r ++ 10 :: b).head? = some 47 := by
            refine ⟨hc.1, ?_⟩
            cases r with
            | nil => simp at hc
            | cons y r => simpa using hc.2
          rw [if_pos hc, if_pos hc2]; exact lf_step _ _ _ _ (ih true)
        · have hc2 : ¬ (x = 47 ∧ (r ++ 10 :: b).head? = some 47) := by
            rintro ⟨h1, h2⟩
            cases r with
            | nil => simp at h2
            | cons y r => exact hc ⟨h1, by simpa using h2⟩
          rw [if_neg hc, if_neg hc2, if_neg (by omega)]
    · rw [skipN_t, skipN_t]; exact lf_step _ _ _ _ (ih _)
theorem takeWhile_lf (p : UInt8 → Bool) (hp : p 10 = false) (r b : List UInt8) : (r ++ 10 :: b).takeWhile p = r.takeWhile p := by
  induction r with
  | nil => simp [hp]
  | cons x r ih => simp only [List.cons_append, List.takeWhile_cons, ih]
theorem runN_lf (p : UInt8 → Bool) (hp : p 10 = false) (x : UInt8) (r b : List UInt8) : runN p (x :: (r ++ 10 :: b)) = runN p (x :: r) := by
  simp only [runN]
  rw [takeWhile_lf p hp]
theorem markL_app (l x : List UInt8) (m : UInt8) (n : Nat) (h : markL l = some (m, n)) : markL (l ++ x) = some (m, n) := by
  cases l with
  | nil => cases h
  | cons d r =>
    simp only [markL, List.cons_append] at h ⊢
    by_cases h1 : d = 34
    · rw [if_pos h1] at h ⊢; exact h
    · rw [if_neg h1] at h ⊢
      by_cases h2 : d = 92
      · rw [if_pos h2] at h ⊢; exact h
      · rw [if_neg h2] at h ⊢
        by_cases h3 : d = 110
        · rw [if_pos h3] at h ⊢; exact h
        · rw [if_neg h3] at h ⊢
          by_cases h4 : d = 120
          · rw [if_pos h4] at h ⊢
            match r, h with
            | [], h => cases h
            | [a], h => cases h
            | a :: b :: r', h => exact h
          · rw [if_neg h4] at h; cases h
theorem strL_app (x : List UInt8) : ∀ (f g : Nat) (l t : List UInt8) (n : Nat), strL f l = some (t, n) → f ≤ g → strL g (l ++ x) = some (t, n) := by
  intro f
  induction f with
  | zero => intro g l t n h; simp [strL] at h
  | succ f ih =>
    intro g l t n h hg
    obtain ⟨g, rfl⟩ : ∃ m, g = m + 1 := ⟨g - 1, by omega⟩
    cases l with
    | nil => simp [strL] at h
    | cons c r =>
      simp only [strL, List.cons_append] at h ⊢
      by_cases h1 : c = 34
      · rw [if_pos h1] at h ⊢; exact h
      · rw [if_neg h1] at h ⊢
        by_cases h2 : c = 92
        · rw [if_pos h2] at h ⊢
          cases hm : markL r with
          | none => rw [hm] at h; cases h
          | some y =>
            obtain ⟨m, j⟩ := y
            rw [hm] at h
            obtain ⟨j1, j2⟩ := markL_le _ _ _ hm
            rw [markL_app r x m j hm]
            simp only at h ⊢
            obtain ⟨⟨t', n'⟩, h3, h4⟩ := Option.map_eq_some_iff.mp h
            rw [List.drop_append_of_le_length j2, ih g _ t' n' h3 (by omega)]
            rw [← h4]; rfl
        · rw [if_neg h2] at h ⊢
          by_cases h3 : c < 32
          · rw [if_pos h3] at h; cases h
          · rw [if_neg h3] at h ⊢
            by_cases h4 : c = 127
            · rw [if_pos h4] at h; cases h
            · rw [if_neg h4] at h ⊢
              obtain ⟨⟨t', n'⟩, h5, h6⟩ := Option.map_eq_some_iff.mp h
              rw [ih g _ t' n' h5 (by omega), ← h6]; rfl
theorem runN_take (p : UInt8 → Bool) (hp : p 10 = false) (c : UInt8) (r b : List UInt8) : (c :: (r ++ 10 :: b)).take (runN p (c :: (r ++ 10 :: b))) = (c :: r).take (runN p (c :: r)) := by
  rw [runN_lf p hp]
  have := runN_le p (c :: r)
  rw [← List.cons_append, List.take_append_of_le_length this]
theorem lex1_lf (a b : List UInt8) (y) (h : lex1 a = some y) : lex1 (a ++ 10 :: b) = some y := by
  cases a with
  | nil => cases h
  | cons c r =>
    have hn : nameU 10 = false := by decide
    have hu : numU 10 = false := by decide
    rw [List.cons_append, lex1_cons, runN_take nameU hn, runN_take numU hu, runN_lf nameU hn, runN_lf numU hu]
    rw [lex1_cons] at h
    split at h
    · cases h
    · rename_i h4
      rw [if_neg h4]
      split at h
      · rename_i h0; rw [if_pos h0]; exact h
      · rename_i h0
        rw [if_neg h0]
        split at h
        · rename_i h1; rw [if_pos h1]; exact h
        · rename_i h1
          rw [if_neg h1]
          split at h
          · rename_i h2
            rw [if_pos h2]
            obtain ⟨⟨t', n'⟩, h3, h4⟩ := Option.map_eq_some_iff.mp h
            rw [strL_app (10 :: b) _ _ r t' n' h3 (by simp), ← h4]; rfl
          · rename_i h2
            rw [if_neg h2]; exact h
theorem scan_len : ∀ (d m p : Nat) (a : List UInt8) (ts : List TokS), a.length ≤ d → scan m p a = .inl ts → ts.length ≤ a.length ∧ ts.length ≤ m := by
  intro d
  induction d with
  | zero =>
    intro m p a ts hd h
    obtain rfl : a = [] := List.length_eq_zero_iff.mp (by omega)
    simp only [scan, skipN, List.drop_nil, lx_nil, Sum.inl.injEq] at h
    subst h; simp
  | succ d ih =>
    intro m p a ts hd h
    unfold scan at h
    have hk := skipN_le false a
    generalize skipN false a = k at h hk
    cases hl : a.drop k with
    | nil => rw [hl, lx_nil] at h; simp only [Sum.inl.injEq] at h; subst h; simp
    | cons c r =>
      have hz := congrArg List.length hl
      rw [List.length_drop, List.length_cons] at hz
      rw [hl, lx_cons] at h
      cases hx : lex1 (c :: r) with
      | none => rw [hx] at h; cases h
      | some y =>
        obtain ⟨kd, t, v, n⟩ := y
        obtain ⟨n1, n2⟩ := lex1_le _ _ _ _ _ hx
        rw [hx] at h
        simp only at h
        split at h
        · cases h
        · rename_i hm
          cases hs : scan (m - 1) (p + k + n) ((c :: r).drop n) with
          | inr e => rw [hs] at h; cases h
          | inl us =>
            rw [hs] at h
            simp only [preE, Sum.inl.injEq] at h
            subst h
            simp only [List.length_cons] at n2
            obtain ⟨g1, g2⟩ := ih _ _ _ _ (by simp only [List.length_drop, List.length_cons]; omega) hs
            simp only [List.length_drop, List.length_cons] at g1
            simp only [List.length_append, List.length_cons, List.length_nil]
            omega
theorem preE_preE (a b : List TokS) (x) : preE a (preE b x) = preE (a ++ b) x := by cases x <;> simp [preE]
theorem scan_lf (b : List UInt8) : ∀ (d m p : Nat) (a : List UInt8) (ts : List TokS), a.length ≤ d → scan m p a = .inl ts → scan m p (a ++ 10 :: b) = preE ts (scan (m - ts.length) (p + a.length + 1) b) := by
  intro d
  induction d with
  | zero =>
    intro m p a ts hd h
    obtain rfl : a = [] := List.length_eq_zero_iff.mp (by omega)
    simp only [scan, skipN, List.drop_nil, lx_nil, Sum.inl.injEq] at h
    subst h
    unfold scan
    rw [skipN_lf]
    simp only [skipN, List.length_nil, if_true, List.nil_append]
    rw [show 0 + 1 + skipN false b = skipN false b + 1 from by omega, List.drop_succ_cons, show p + (skipN false b + 1) = p + 0 + 1 + skipN false b from by omega]
    cases lx (m - 0) (p + 0 + 1 + skipN false b) (b.drop (skipN false b)) <;> rfl
  | succ d ih =>
    intro m p a ts hd h
    unfold scan at h
    have hk := skipN_le false a
    by_cases hf : skipN false a = a.length
    · rw [hf, List.drop_length, lx_nil, Sum.inl.injEq] at h
      subst h
      unfold scan
      rw [skipN_lf, if_pos hf]
      have e : (a ++ 10 :: b).drop (a.length + 1 + skipN false b) = b.drop (skipN false b) := by
        rw [← List.drop_drop, show (a ++ 10 :: b).drop (a.length + 1) = b from by rw [show a ++ 10 :: b = (a ++ [10]) ++ b from by simp, show a.length + 1 = (a ++ [10]).length from by simp, List.drop_left]]
      rw [e, show p + (a.length + 1 + skipN false b) = p + a.length + 1 + skipN false b from by omega]
      simp only [List.length_nil, Nat.sub_zero]
      cases lx (m - 0) (p + a.length + 1 + skipN false b) (b.drop (skipN false b)) <;> rfl
    · have hs : scan m p (a ++ 10 :: b) = lx m (p + skipN false a) ((a ++ 10 :: b).drop (skipN false a)) := by
        unfold scan
        rw [skipN_lf, if_neg hf]
      rw [hs]
      generalize skipN false a = k at h hk hf
      rw [List.drop_append_of_le_length hk]
      cases hl : a.drop k with
      | nil =>
        have hz := congrArg List.length hl
        rw [List.length_drop, List.length_nil] at hz
        omega
      | cons c r =>
        have hz := congrArg List.length hl
        rw [List.length_drop, List.length_cons] at hz
        rw [hl, lx_cons] at h
        rw [List.cons_append, lx_cons]
        cases hx : lex1 (c :: r) with
        | none => rw [hx] at h; cases h
        | some y =>
          obtain ⟨kd, t, v, n⟩ := y
          obtain ⟨n1, n2⟩ := lex1_le _ _ _ _ _ hx
          have hx2 := lex1_lf _ b _ hx
          rw [List.cons_append] at hx2
          rw [hx] at h
          rw [hx2]
          simp only at h ⊢
          split at h
          · cases h
          · rename_i hm
            rw [if_neg hm]
            cases hs : scan (m - 1) (p + k + n) ((c :: r).drop n) with
            | inr e => rw [hs] at h; cases h
            | inl us =>
              rw [hs] at h
              simp only [preE, Sum.inl.injEq] at h
              subst h
              simp only [List.length_cons] at n2
              rw [← List.cons_append, List.drop_append_of_le_length (by simpa using n2), ih _ _ _ _ (by simp only [List.length_drop, List.length_cons]; omega) hs, preE_preE]
              simp only [List.length_append, List.length_cons, List.length_nil, List.length_drop]
              rw [show p + k + n + (r.length + 1 - n) + 1 = p + a.length + 1 from by omega, show m - 1 - us.length = m - (0 + 1 + us.length) from by omega]
theorem rd_at (xs : List TokS) (i : Nat) (t : TokS) (h : xs[i]? = some t) : rd_T29 xs (i : Int) = t := by
  unfold rd_T29
  rw [Int.toNat_natCast, List.getD_eq_getElem?_getD, h]
  rfl
theorem all_small (s : ByteArray) (h : s.size ≤ 5000) : token_All.f s = some (endL s [] (scan 1000 0 (bl s))) := by
  unfold token_All.f allF
  rw [if_neg (by omega), all_scan]
/-- The tokens lie within the text. -/
theorem scan_at : ∀ (d m p : Nat) (a : List UInt8) (ts : List TokS), a.length ≤ d → scan m p a = .inl ts → ∀ t ∈ ts, (p : Int) ≤ t.f3 ∧ t.f3 ≤ p + a.length := by
  intro d
  induction d with
  | zero =>
    intro m p a ts hd h
    obtain rfl : a = [] := List.length_eq_zero_iff.mp (by omega)
    simp only [scan, skipN, List.drop_nil, lx_nil, Sum.inl.injEq] at h
    subst h; simp
  | succ d ih =>
    intro m p a ts hd h
    unfold scan at h
    have hk := skipN_le false a
    generalize skipN false a = k at h hk
    cases hl : a.drop k with
    | nil => rw [hl, lx_nil] at h; simp only [Sum.inl.injEq] at h; subst h; simp
    | cons c r =>
      have hz := congrArg List.length hl
      rw [List.length_drop, List.length_cons] at hz
      rw [hl, lx_cons] at h
      cases hx : lex1 (c :: r) with
      | none => rw [hx] at h; cases h
      | some y =>
        obtain ⟨kd, t, v, n⟩ := y
        obtain ⟨n1, n2⟩ := lex1_le _ _ _ _ _ hx
        rw [hx] at h
        simp only at h
        split at h
        · cases h
        · cases hs : scan (m - 1) (p + k + n) ((c :: r).drop n) with
          | inr e => rw [hs] at h; cases h
          | inl us =>
            rw [hs] at h
            simp only [preE, Sum.inl.injEq] at h
            subst h
            simp only [List.length_cons] at n2
            have g := ih _ _ _ _ (by simp only [List.length_drop, List.length_cons]; omega) hs
            intro t' ht
            simp only [List.cons_append, List.nil_append, List.mem_cons] at ht
            rcases ht with rfl | ht
            · simp only; omega
            · have := g t' ht
              simp only [List.length_drop, List.length_cons] at this
              omega
theorem bl_app (a b : ByteArray) : bl (a ++ b) = bl a ++ bl b := by simp [bl]
theorem join_bl (a b : ByteArray) : bl ((a ++ (⟨#[10]⟩ : ByteArray)) ++ b) = bl a ++ 10 :: bl b := by
  rw [bl_app, bl_app]
  show (bl a ++ [10]) ++ bl b = _
  simp
theorem join_size (a b : ByteArray) : ((a ++ (⟨#[10]⟩ : ByteArray)) ++ b).size = a.size + 1 + b.size := by
  rw [← bl_length, join_bl]
  simp only [List.length_append, List.length_cons, bl_length]
  omega
theorem lf_size (a : ByteArray) : (a ++ (⟨#[10]⟩ : ByteArray)).size = a.size + 1 := by
  rw [← bl_length, bl_app]
  simp [bl]
theorem scan_err : ∀ (d m p : Nat) (a : List UInt8) (q : Nat) (e : Int), a.length ≤ d → scan m p a = .inr (q, e) → (e = 4 ∨ e = 2) ∧ p ≤ q ∧ q < p + a.length := by
  intro d
  induction d with
  | zero =>
    intro m p a q e hd h
    obtain rfl : a = [] := List.length_eq_zero_iff.mp (by omega)
    simp only [scan, skipN, List.drop_nil, lx_nil] at h
    cases h
  | succ d ih =>
    intro m p a q e hd h
    unfold scan at h
    have hk := skipN_le false a
    generalize skipN false a = k at h hk
    cases hl : a.drop k with
    | nil => rw [hl, lx_nil] at h; cases h
    | cons c r =>
      have hz := congrArg List.length hl
      rw [List.length_drop, List.length_cons] at hz
      rw [hl, lx_cons] at h
      cases hx : lex1 (c :: r) with
      | none =>
        rw [hx] at h
        simp only [Sum.inr.injEq, Prod.mk.injEq] at h
        omega
      | some y =>
        obtain ⟨kd, t, v, n⟩ := y
        obtain ⟨n1, n2⟩ := lex1_le _ _ _ _ _ hx
        rw [hx] at h
        simp only at h
        split at h
        · simp only [Sum.inr.injEq, Prod.mk.injEq] at h
          omega
        · cases hs : scan (m - 1) (p + k + n) ((c :: r).drop n) with
          | inl us => rw [hs] at h; cases h
          | inr e' =>
            rw [hs] at h
            simp only [preE, Sum.inr.injEq] at h
            subst h
            simp only [List.length_cons] at n2
            have g := ih _ _ _ _ _ (by simp only [List.length_drop, List.length_cons]; omega) hs
            simp only [List.length_drop, List.length_cons] at g
            omega

end Go.Proofs.YtngcojabofkbjaaDoor.P
