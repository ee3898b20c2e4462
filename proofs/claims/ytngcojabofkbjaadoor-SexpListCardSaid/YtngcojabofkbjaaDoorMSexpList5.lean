/- Part 5 of what the law SexpList leans on: contracts of the functions that it reaches, and plain lemmas; printed walks and words (by the kit's print, through wip/mp.py) and the session's own texts, one behind the other, what is not used left out (wip/prune.py). -/
import Derived.Lib.Join
import Derived.Lib.ItoaMem
import Derived.SliceStrings
import Derived.Deep.DeepWitnessRowRef
import Derived.Stop.LaidErr
import Derived.Lib.LaidTab
import Derived.LaidLaws
import Derived.MakeChecks
import Derived.Test.YtngcojabofkbjaaDoorRows
import Derived.Test.YtngcojabofkbjaaDoorMSexpList1
import Derived.Test.YtngcojabofkbjaaDoorMSexpList2
import Derived.Test.YtngcojabofkbjaaDoorMSexpList3
import Derived.Test.YtngcojabofkbjaaDoorMSexpList4
namespace Go.Proofs.YtngcojabofkbjaaDoor.P
open Go.RowKit Go.Proofs.YtngcojabofkbjaaDoorW.PrintWords Go.Proofs.YtngcojabofkbjaaDoorW.PrintLast Go.Proofs.YtngcojabofkbjaaDoorW.PrintMore
set_option linter.unusedVariables false
set_option linter.unusedSimpArgs false
def sepL (b : List UInt8) : Prop := ∀ c r, b = c :: r → nameU c = false ∧ numU c = false
theorem takeWhile_sep (p : UInt8 → Bool) (b : List UInt8) (hb : ∀ c r, b = c :: r → p c = false) (l : List UInt8) : (l ++ b).takeWhile p = l.takeWhile p := by
  induction l with
  | nil => cases b with
    | nil => rfl
    | cons c r => simp [hb c r rfl]
  | cons x r ih => simp only [List.cons_append, List.takeWhile_cons, ih]
theorem runN_sep (p : UInt8 → Bool) (b : List UInt8) (hb : ∀ c r, b = c :: r → p c = false) (x : UInt8) (r : List UInt8) : runN p (x :: (r ++ b)) = runN p (x :: r) := by
  simp only [runN]
  rw [takeWhile_sep p b hb]
theorem run_take (p : UInt8 → Bool) (c : UInt8) (r : List UInt8) : (c :: r).take (runN p (c :: r)) = c :: r.takeWhile p := by
  simp only [runN]
  rw [Nat.add_comm, List.take_succ_cons]
  congr 1
  exact (List.prefix_iff_eq_take.1 (List.takeWhile_prefix p)).symm
theorem lex1_sep (a b : List UInt8) (hb : sepL b) (y) (h : lex1 a = some y) : lex1 (a ++ b) = some y := by
  cases a with
  | nil => cases h
  | cons c r =>
    have hn : ∀ c r, b = c :: r → nameU c = false := fun c r e => (hb c r e).1
    have hu : ∀ c r, b = c :: r → numU c = false := fun c r e => (hb c r e).2
    rw [List.cons_append, lex1_cons, run_take, run_take, takeWhile_sep nameU b hn, takeWhile_sep numU b hu, runN_sep nameU b hn, runN_sep numU b hu, ← run_take, ← run_take]
    rw [lex1_cons] at h
    split at h
    · cases h
    · rename_i h4
      rw [if_neg h4]
      split at h
      · rename_i h0; rw [if_pos h0]; exact h
      · rename_i h0
        rw [if_neg h0]
        split at h
        · rename_i h1; rw [if_pos h1]; exact h
        · rename_i h1
          rw [if_neg h1]
          split at h
          · rename_i h2
            rw [if_pos h2]
            obtain ⟨⟨t', n'⟩, h3, h4⟩ := Option.map_eq_some_iff.mp h
            rw [strL_app b _ _ r t' n' h3 (by simp), ← h4]; rfl
          · rename_i h2
            rw [if_neg h2]; exact h
theorem takeWhile_twice (p : UInt8 → Bool) (l : List UInt8) : (l.takeWhile p).takeWhile p = l.takeWhile p := by
  induction l with
  | nil => rfl
  | cons x r ih =>
    by_cases hx : p x = true
    · simp [List.takeWhile_cons, hx, ih]
    · simp [List.takeWhile_cons, hx]
def selfT (kd : Int) (t : List UInt8) (v : Int) : Prop := (kd = 0 ∨ kd = 1) ∧ lex1 t = some (kd, t, v, t.length)
theorem runN_self (p : UInt8 → Bool) (c : UInt8) (r : List UInt8) : runN p (c :: r.takeWhile p) = (c :: r.takeWhile p).length := by
  simp only [runN, takeWhile_twice, List.length_cons]
  omega
theorem lex1_tok (l : List UInt8) (kd : Int) (t : List UInt8) (v : Int) (n : Nat) (h : lex1 l = some (kd, t, v, n)) :
    (selfT kd t v ∧ t.length ≤ l.length) ∨ (kd = 2 ∧ v = 0) ∨ (kd = 3 ∧ v = 0 ∧ t.length = 1) := by
  cases l with
  | nil => cases h
  | cons c r =>
    rw [lex1_cons] at h
    split at h
    · cases h
    · rename_i h4
      split at h
      · rename_i h0
        simp only [Option.some.injEq, Prod.mk.injEq] at h
        obtain ⟨rfl, rfl, rfl, rfl⟩ := h
        refine .inl ⟨⟨.inl rfl, ?_⟩, by rw [List.length_take]; omega⟩
        rw [run_take, lex1_cons, if_neg h4, if_pos h0, runN_self, List.take_length]
      · rename_i h0
        split at h
        · rename_i h1
          split at h
          · rename_i hok
            simp only [Option.some.injEq, Prod.mk.injEq] at h
            obtain ⟨rfl, rfl, rfl, rfl⟩ := h
            refine .inl ⟨⟨.inr rfl, ?_⟩, by rw [List.length_take]; omega⟩
            rw [run_take] at hok ⊢
            rw [lex1_cons, if_neg h4, if_neg h0, if_pos h1, runN_self, List.take_length, if_pos hok]
          · cases h
        · rename_i h1
          split at h
          · obtain ⟨⟨t', n'⟩, h3, h5⟩ := Option.map_eq_some_iff.mp h
            simp only [Prod.mk.injEq] at h5
            obtain ⟨rfl, rfl, rfl, rfl⟩ := h5
            exact .inr (.inl ⟨rfl, rfl⟩)
          · simp only [Option.some.injEq, Prod.mk.injEq] at h
            obtain ⟨rfl, rfl, rfl, rfl⟩ := h
            exact .inr (.inr ⟨rfl, rfl, rfl⟩)
theorem skip_tok (c : UInt8) (r : List UInt8) (h : ofK (c.toNat : Int) ≠ 4) : skipN false (c :: r) = 0 := by
  rw [skipN_f]
  have hb : blankB c = false := by
    unfold blankB
    have e1 : (c == 32) = false := by rw [beq_eq_false_iff_ne]; rintro rfl; exact h (by decide)
    have e2 : (c == 9) = false := by rw [beq_eq_false_iff_ne]; rintro rfl; exact h (by decide)
    have e3 : (c == 10) = false := by rw [beq_eq_false_iff_ne]; rintro rfl; exact h (by decide)
    have e4 : (c == 13) = false := by rw [beq_eq_false_iff_ne]; rintro rfl; exact h (by decide)
    rw [e1, e2, e3, e4]; rfl
  rw [hb, if_neg (by simp), if_neg]
  rintro ⟨rfl, _⟩
  exact h (by decide)
theorem lex1_first (a : List UInt8) (y) (h : lex1 a = some y) : ∃ c r, a = c :: r ∧ ofK (c.toNat : Int) ≠ 4 := by
  cases a with
  | nil => cases h
  | cons c r =>
    refine ⟨c, r, rfl, fun e => ?_⟩
    rw [lex1_cons, if_pos e] at h
    cases h
theorem scan_one (m p : Nat) (a b : List UInt8) (kd : Int) (t : List UInt8) (v : Int) (n : Nat) (h : lex1 a = some (kd, t, v, n)) (hn : n = a.length) (hb : sepL b) :
    scan m p (a ++ b) = if m = 0 then .inr (p, 2) else preE [⟨kd, ⟨t.toArray⟩, v, p⟩] (scan (m - 1) (p + a.length) b) := by
  obtain ⟨c, r, rfl, hc⟩ := lex1_first a _ h
  have h2 := lex1_sep (c :: r) b hb _ h
  unfold scan
  rw [List.cons_append, skip_tok c (r ++ b) hc, Nat.add_zero, List.drop_zero, lx_cons]
  rw [List.cons_append] at h2
  rw [h2]
  simp only
  rw [← List.cons_append, hn, List.drop_left]
  rfl
theorem scan_nil (m p : Nat) : scan m p [] = .inl [] := rfl
theorem scan_cases (m p : Nat) (a : List UInt8) (ts : List TokS) (h : scan m p a = .inl ts) : ts = [] ∨ ∃ (k : Nat) (kd : Int) (t : List UInt8) (v : Int) (n : Nat) (us : List TokS),
    lex1 (a.drop k) = some (kd, t, v, n) ∧ 1 ≤ n ∧ k + n ≤ a.length ∧ 0 < m ∧ scan (m - 1) (p + k + n) (a.drop (k + n)) = .inl us ∧ ts = ⟨kd, ⟨t.toArray⟩, v, ((p + k : Nat) : Int)⟩ :: us := by
  unfold scan at h
  have hk := skipN_le false a
  generalize skipN false a = k at h hk
  cases hl : a.drop k with
  | nil => rw [hl, lx_nil] at h; simp only [Sum.inl.injEq] at h; exact .inl h.symm
  | cons c r =>
    have hz := congrArg List.length hl
    rw [List.length_drop, List.length_cons] at hz
    rw [hl, lx_cons] at h
    cases hx : lex1 (c :: r) with
    | none => rw [hx] at h; cases h
    | some y =>
      obtain ⟨kd, t, v, n⟩ := y
      obtain ⟨n1, n2⟩ := lex1_le _ _ _ _ _ hx
      rw [List.length_cons] at n2
      rw [hx] at h
      simp only at h
      split at h
      · cases h
      · rename_i hm
        cases hs : scan (m - 1) (p + k + n) ((c :: r).drop n) with
        | inr e => rw [hs] at h; cases h
        | inl us =>
          rw [hs] at h
          simp only [preE, Sum.inl.injEq] at h
          refine .inr ⟨k, kd, t, v, n, us, by rw [hl]; exact hx, n1, by omega, by omega, ?_, ?_⟩
          · rw [← List.drop_drop, hl]; exact hs
          · rw [← h]; rfl
def tokOk (t : TokS) : Prop := selfT t.f0 (bl t.f1) t.f2 ∨ (t.f0 = 2 ∧ t.f2 = 0) ∨ (t.f0 = 3 ∧ t.f2 = 0 ∧ (bl t.f1).length = 1)
def incT : Int → List TokS → Prop
  | _, [] => True
  | b, t :: ts => b ≤ t.f3 ∧ incT (t.f3 + 1) ts
theorem incT_mono : ∀ (ts : List TokS) (b c : Int), c ≤ b → incT b ts → incT c ts
  | [], _, _, _, _ => trivial
  | _ :: _, _, _, h, ⟨h1, h2⟩ => ⟨by omega, h2⟩
theorem scan_facts : ∀ (d m p : Nat) (a : List UInt8) (ts : List TokS), a.length ≤ d → scan m p a = .inl ts →
    (∀ t ∈ ts, tokOk t ∧ (selfT t.f0 (bl t.f1) t.f2 → t.f1.size ≤ a.length) ∧ t.f3 < p + a.length) ∧ incT p ts := by
  intro d
  induction d with
  | zero =>
    intro m p a ts hd h
    obtain rfl : a = [] := List.length_eq_zero_iff.mp (by omega)
    rw [scan_nil] at h
    injection h with h
    subst h
    exact ⟨fun t ht => (by cases ht), trivial⟩
  | succ d ih =>
    intro m p a ts hd h
    rcases scan_cases m p a ts h with rfl | ⟨k, kd, t, v, n, us, hx, hn, hk, hm, hs, rfl⟩
    · exact ⟨fun t ht => (by cases ht), trivial⟩
    · obtain ⟨g1, g2⟩ := ih _ _ _ _ (by rw [List.length_drop]; omega) hs
      refine ⟨fun u hu => ?_, ?_⟩
      · rcases List.mem_cons.1 hu with rfl | hu
        · have hl := lex1_tok _ _ _ _ _ hx
          refine ⟨Or.elim hl (fun hl => .inl hl.1) (fun hl => .inr hl), fun hself => ?_, by show ((p + k : Nat) : Int) < _; omega⟩
          · show (⟨t.toArray⟩ : ByteArray).size ≤ a.length
            rw [← bl_length]
            show t.length ≤ a.length
            have h9 : kd = 0 ∨ kd = 1 := hself.1
            rcases hl with hl | hl | hl
            · have := hl.2; rw [List.length_drop] at this; omega
            · exfalso; have := hl.1; omega
            · exfalso; have := hl.1; omega
        · obtain ⟨q1, q2, q3⟩ := g1 u hu
          rw [List.length_drop] at q2 q3
          exact ⟨q1, fun hh => by have := q2 hh; omega, by omega⟩
      · refine ⟨by show (p : Int) ≤ ((p + k : Nat) : Int); omega, incT_mono us _ _ ?_ g2⟩
        show ((p + k : Nat) : Int) + 1 ≤ ((p + k + n : Nat) : Int)
        omega
theorem preE_len (ts us : List TokS) (x) (h : preE ts x = .inl us) : ∃ vs, x = .inl vs ∧ us = ts ++ vs := by
  cases x with
  | inr e => cases h
  | inl vs => simp only [preE, Sum.inl.injEq] at h; exact ⟨vs, rfl, h.symm⟩
theorem scan_cut : ∀ (d M m p : Nat) (a : List UInt8) (ts : List TokS), a.length ≤ d → scan M p a = .inl ts → (ts.length ≤ m → scan m p a = .inl ts) ∧ (m < ts.length → ∃ q, scan m p a = .inr (q, 2)) := by
  intro d
  induction d with
  | zero =>
    intro M m p a ts hd h
    obtain rfl : a = [] := List.length_eq_zero_iff.mp (by omega)
    rw [scan_nil] at h
    injection h with h
    subst h
    exact ⟨fun _ => scan_nil _ _, fun h => by simp at h⟩
  | succ d ih =>
    intro M m p a ts hd h
    have h0 := h
    unfold scan at h ⊢
    have hk := skipN_le false a
    generalize skipN false a = k at h hk ⊢
    cases hl : a.drop k with
    | nil => rw [hl, lx_nil] at h; simp only [Sum.inl.injEq] at h; subst h; exact ⟨fun _ => lx_nil _ _, fun h => by simp at h⟩
    | cons c r =>
      have hz := congrArg List.length hl
      rw [List.length_drop, List.length_cons] at hz
      rw [hl, lx_cons] at h
      rw [lx_cons]
      cases hx : lex1 (c :: r) with
      | none => rw [hx] at h; cases h
      | some y =>
        obtain ⟨kd, t, v, n⟩ := y
        obtain ⟨n1, n2⟩ := lex1_le _ _ _ _ _ hx
        rw [List.length_cons] at n2
        rw [hx] at h
        simp only at h ⊢
        split at h
        · cases h
        · obtain ⟨vs, hv, rfl⟩ := preE_len _ _ _ h
          obtain ⟨i1, i2⟩ := ih (M - 1) (m - 1) _ _ _ (by rw [List.length_drop, List.length_cons]; omega) hv
          simp only [List.length_append, List.length_cons, List.length_nil]
          refine ⟨fun hle => ?_, fun hlt => ?_⟩
          · rw [if_neg (by omega), i1 (by omega)]; rfl
          · by_cases hm : m = 0
            · rw [if_pos hm]; exact ⟨_, rfl⟩
            · rw [if_neg hm]
              obtain ⟨q, hq⟩ := i2 (by omega)
              exact ⟨q, by rw [hq]; rfl⟩
end Go.Proofs.YtngcojabofkbjaaDoor.P
namespace Go.Proofs.YtngcojabofkbjaaDoor.P
open Go.RowKit Go.Proofs.YtngcojabofkbjaaDoorW.PrintWords Go.Proofs.YtngcojabofkbjaaDoorW.PrintLast Go.Proofs.YtngcojabofkbjaaDoorW.PrintMore
set_option linter.unusedVariables false
set_option linter.unusedSimpArgs false
theorem hexI_hexB : ∀ n : Fin 16, hexI (hexB n.val) = n.val := by decide
theorem byte_eq (a b : UInt8) (h : a.toNat = b.toNat) : a = b := UInt8.toNat_inj.mp h
theorem strL_quote (l : List UInt8) (rest : List UInt8) : ∀ f, l.length < f → strL f (l.flatMap quote1 ++ 34 :: rest) = some (l, (l.flatMap quote1).length + 1) := by
  induction l with
  | nil =>
    intro f hf
    obtain ⟨f, rfl⟩ : ∃ m, f = m + 1 := ⟨f - 1, by simp at hf; omega⟩
    simp [strL]
  | cons c r ih =>
    intro f hf
    obtain ⟨f, rfl⟩ : ∃ m, f = m + 1 := ⟨f - 1, by omega⟩
    have hf2 : r.length < f := by simp only [List.length_cons] at hf; omega
    have ih2 := ih f hf2
    have hc := c.toNat_lt
    simp only [List.flatMap_cons, List.append_assoc]
    rw [quote1_nat]
    by_cases h1 : c.toNat = 34 ∨ c.toNat = 92
    · rw [if_pos h1]
      simp only [List.cons_append, List.nil_append, strL]
      rw [if_neg (by decide), if_pos trivial]
      have hm : markL (c :: (r.flatMap quote1 ++ 34 :: rest)) = some (c, 1) := by
        rcases h1 with h | h
        · obtain rfl : c = 34 := byte_eq c 34 h
          simp [markL]
        · obtain rfl : c = 92 := byte_eq c 92 h
          simp [markL]
      rw [hm]
      simp only [List.drop_succ_cons, List.drop_zero, ih2, Option.map_some]
      simp; omega
    · rw [if_neg h1]
      by_cases h2 : c.toNat = 10
      · rw [if_pos h2]
        obtain rfl : c = 10 := byte_eq c 10 h2
        simp only [List.cons_append, List.nil_append, strL]
        rw [if_neg (by decide), if_pos trivial]
        have hm : markL (110 :: (r.flatMap quote1 ++ 34 :: rest)) = some (10, 1) := by simp [markL]
        rw [hm]
        simp only [List.drop_succ_cons, List.drop_zero, ih2, Option.map_some]
        simp; omega
      · rw [if_neg h2]
        by_cases h3 : c.toNat < 32 ∨ 126 < c.toNat
        · rw [if_pos h3]
          simp only [List.cons_append, List.nil_append, strL]
          rw [if_neg (by decide), if_pos trivial]
          have ha := hexI_hexB ⟨c.toNat / 16, by omega⟩
          have hb := hexI_hexB ⟨c.toNat % 16, by omega⟩
          simp only at ha hb
          have hm : markL (120 :: hexB (c.toNat / 16) :: hexB (c.toNat % 16) :: (r.flatMap quote1 ++ 34 :: rest)) = some (c, 3) := by
            simp only [markL]
            rw [if_neg (by decide), if_neg (by decide), if_neg (by decide), if_pos trivial, ha, hb, if_pos ⟨by omega, by omega⟩]
            have : UInt8.ofNat ((c.toNat / 16) * 16 + c.toNat % 16) = c := by
              apply byte_eq
              rw [UInt8.toNat_ofNat', Nat.mod_eq_of_lt (by omega)]
              omega
            simp only [Int.toNat_natCast, this]
          rw [hm]
          simp only [List.drop_succ_cons, List.drop_zero, ih2, Option.map_some]
          simp; omega
        · rw [if_neg h3]
          simp only [List.cons_append, List.nil_append, strL]
          have n1 : ¬ c = 34 := fun e => h1 (.inl (by rw [e]; rfl))
          have n2 : ¬ c = 92 := fun e => h1 (.inr (by rw [e]; rfl))
          have n3 : ¬ c < 32 := by rw [UInt8.lt_iff_toNat_lt]; show ¬ c.toNat < 32; omega
          have n4 : ¬ c = 127 := fun e => h3 (.inr (by rw [e]; decide))
          rw [if_neg n1, if_neg n2, if_neg n3, if_neg n4, ih2]
          simp
end Go.Proofs.YtngcojabofkbjaaDoor.P
namespace Go.Proofs.YtngcojabofkbjaaDoor.P
open Go.RowKit Go.Proofs.YtngcojabofkbjaaDoorW.PrintWords Go.Proofs.YtngcojabofkbjaaDoorW.PrintLast Go.Proofs.YtngcojabofkbjaaDoorW.PrintMore
set_option linter.unusedVariables false
set_option linter.unusedSimpArgs false
abbrev Bare := Int × List UInt8 × Int
def bareT (t : TokS) : Bare := (t.f0, bl t.f1, t.f2)
mutual
def toksB : NodeS → List Bare
  | ⟨k, t, n, _, l⟩ => if k = 4 then (3, [40], 0) :: (toksBL l ++ [(3, [41], 0)]) else [(k, bl t, n)]
def toksBL : List NodeS → List Bare
  | [] => []
  | x :: r => toksB x ++ toksBL r
end
mutual
def leafB : NodeS → Bool
  | ⟨k, t, n, _, l⟩ => if k = 4 then n == 0 && (t.toList == [] && leafL l) else decide (l.length = 0) && (if k = 0 ∨ k = 1 then aloneB k t n else if k = 2 then n == 0 else if k = 3 then n == 0 && t.toList == [46] else false)
def leafL : List NodeS → Bool
  | [] => true
  | x :: r => leafB x && leafL r
end
mutual
def hgt : NodeS → Nat
  | ⟨k, _, _, _, l⟩ => if k = 4 then 1 + hgtL l else 0
def hgtL : List NodeS → Nat
  | [] => 0
  | x :: r => max (hgt x) (hgtL r)
end
theorem leafL_all (l : List NodeS) : leafL l = true ↔ ∀ x ∈ l, leafB x = true := by
  induction l with
  | nil => simp [leafL]
  | cons x r ih => rw [leafL, Bool.and_eq_true, ih]; simp
theorem hgtL_le (l : List NodeS) (m : Nat) : hgtL l ≤ m ↔ ∀ x ∈ l, hgt x ≤ m := by
  induction l with
  | nil => simp [hgtL]
  | cons x r ih => rw [hgtL, Nat.max_le, ih]; simp
theorem toList_nil (t : ByteArray) : (t.toList == []) = true ↔ bl t = [] := by rw [beq_iff_eq, toList_bl]
theorem may_iff : ∀ (N : Nat) (x : NodeS) (d : Nat), SizeOf.sizeOf x ≤ N → d ≤ 16 → (mayB x (d : Int) = true ↔ leafB x = true ∧ (hgt x = 0 ∨ d + hgt x ≤ 16)) := by
  intro N
  induction N with
  | zero => intro x d hN hd; obtain ⟨k, t, n, a, l⟩ := x; simp only [S39.mk.sizeOf_spec] at hN; omega
  | succ N ih =>
    intro x d hN hd
    obtain ⟨k, t, n, a, l⟩ := x
    by_cases h4 : k = 4
    · subst h4
      rw [mayB, leafB, hgt, if_neg (by decide), if_neg (by decide), if_neg (by decide), if_pos rfl, if_pos rfl, if_pos rfl]
      simp only [Bool.and_eq_true, decide_eq_true_eq]
      rw [leafL_all, mayL_all, List.all_eq_true]
      by_cases h16 : d < 16
      · have hw : wrap64 ((d : Int) + 1) = ((d + 1 : Nat) : Int) := by rw [wrap_small _ (by omega) (by omega)]; omega
        rw [hw]
        have hm : ∀ y ∈ l, (mayB y ((d + 1 : Nat) : Int) = true ↔ leafB y = true ∧ (hgt y = 0 ∨ d + 1 + hgt y ≤ 16)) := fun y hy => ih y (d + 1) (by have := size_in ⟨4, t, n, a, l⟩ y hy; omega) (by omega)
        have hh := hgtL_le l (16 - (d + 1))
        constructor
        · rintro ⟨h1, h2, h3, h5⟩
          refine ⟨⟨h2, h3, fun y hy => ((hm y hy).1 (h1 y hy)).1⟩, .inr ?_⟩
          have := hh.2 (fun y hy => by rcases ((hm y hy).1 (h1 y hy)).2 with h6 | h6 <;> omega)
          omega
        · rintro ⟨⟨h2, h3, h1⟩, h5⟩
          refine ⟨fun y hy => (hm y hy).2 ⟨h1 y hy, ?_⟩, h2, h3, by omega⟩
          have := hh.1 (by omega) y hy
          omega
      · constructor
        · rintro ⟨h1, h2, h3, h5⟩; omega
        · rintro ⟨_, h5⟩; omega
    · rw [mayB, leafB, hgt, if_neg h4, if_neg h4, if_neg h4]
      by_cases h01 : k = 0 ∨ k = 1
      · rw [if_pos h01, if_pos h01]; simp
      · rw [if_neg h01, if_neg h01]
        by_cases h2 : k = 2
        · rw [if_pos h2, if_pos h2]; simp
        · rw [if_neg h2, if_neg h2]
          by_cases h3 : k = 3
          · rw [if_pos h3, if_pos h3]; simp
          · rw [if_neg h3, if_neg h3]; simp
theorem may_top (x : NodeS) : mayB x 0 = true ↔ leafB x = true ∧ hgt x ≤ 16 := by
  rw [show (0 : Int) = ((0 : Nat) : Int) from rfl, may_iff _ x 0 (Nat.le_refl _) (by omega)]
  constructor
  · rintro ⟨h1, h2⟩; exact ⟨h1, by omega⟩
  · rintro ⟨h1, h2⟩; exact ⟨h1, by omega⟩
theorem allF_big' (s : ByteArray) (h : 5000 < s.size) : (allF s).2.2 = 2 := by
  unfold allF
  rw [if_pos (by omega)]
theorem alone_iff (k : Int) (t : ByteArray) (n : Int) : aloneB k t n = true ↔ (t.size ≤ 5000 ∧ scan 1000 0 (bl t) = .inl [⟨k, t, n, 0⟩]) := by
  unfold aloneB sexp_alone.f
  by_cases hs : t.size ≤ 5000
  · rw [all_small t hs]
    cases hx : scan 1000 0 (bl t) with
    | inr e =>
      obtain ⟨p, e⟩ := e
      have := scan_err _ _ _ _ _ _ (Nat.le_refl _) hx
      simp only [Option.bind_some, endL]
      rw [if_neg (by omega)]
      simp
    | inl ts =>
      simp only [Option.bind_some, endL, List.nil_append]
      rw [if_pos trivial]
      match ts with
      | [] => simp
      | [u] =>
        rw [if_pos (by simp), if_pos (by simp)]
        simp only [rd_T29, Int.toNat_zero, List.getD_cons_zero, Option.getD_some, Bool.and_eq_true, beq_iff_eq, toList_bl, hs, true_and, Sum.inl.injEq, List.cons.injEq, and_true]
        obtain ⟨f0, f1, f2, f3⟩ := u
        simp only [S29.mk.injEq]
        constructor
        · rintro ⟨h1, h2, h3, h4⟩; exact ⟨h1, eq_of_bl h2, h3, h4⟩
        · rintro ⟨h1, h2, h3, h4⟩; exact ⟨h1, by rw [h2], h3, h4⟩
      | u :: v :: r => rw [if_neg (by simp; omega)]; simp
  · have hb := allF_big' t (by omega)
    unfold token_All.f
    simp only [Option.bind_some]
    rw [if_neg (by rw [hb]; decide)]
    simp [hs]
theorem alone_self (k : Int) (t : ByteArray) (n : Int) (hk : k = 0 ∨ k = 1) : aloneB k t n = true ↔ (t.size ≤ 5000 ∧ selfT k (bl t) n) := by
  rw [alone_iff]
  constructor
  · rintro ⟨h1, h2⟩
    refine ⟨h1, hk, ?_⟩
    rcases scan_cases _ _ _ _ h2 with h | ⟨j, kd, t', v, m, us, hx, hn, hk', hm, hs, h⟩
    · cases h
    · simp only [List.cons.injEq, S29.mk.injEq] at h
      obtain ⟨⟨rfl, h3, rfl, h5⟩, h6⟩ := h
      have hj : j = 0 := by omega
      subst hj
      rw [List.drop_zero] at hx
      have h7 : bl t = t' := by rw [h3]
      rcases lex1_tok _ _ _ _ _ hx with h8 | h8 | h8
      · rw [h7]; exact h8.1.2
      · omega
      · omega
  · rintro ⟨h1, _, h2⟩
    refine ⟨h1, ?_⟩
    have := scan_one 1000 0 (bl t) [] k (bl t) n _ h2 rfl (fun c r h => by cases h)
    rw [List.append_nil, if_neg (by decide), scan_nil] at this
    rw [this]
    simp only [preE, List.append_nil, Int.natCast_zero]
theorem lex1_quote (l : List UInt8) : lex1 (quoteL l) = some (2, l, 0, (quoteL l).length) := by
  have hs := strL_quote l [] ((l.flatMap quote1 ++ [34]).length + 1) (by
    have : l.length ≤ (l.flatMap quote1).length := by
      induction l with
      | nil => simp
      | cons c r ih =>
        have h1 : 1 ≤ (quote1 c).length := by rw [quote1_nat]; split; simp; split; simp; split <;> simp
        rw [List.flatMap_cons, List.length_append, List.length_cons]; omega
    rw [List.length_append]; omega)
  have h34 : ofK ((34 : UInt8).toNat : Int) = 2 := by decide
  unfold quoteL
  rw [lex1_cons, h34, if_neg (by decide), if_neg (by decide), if_neg (by decide), if_pos rfl, hs]
  simp
theorem lex1_leaf (k : Int) (t : ByteArray) (n a : Int) (l : List NodeS) (h4 : k ≠ 4) (h : leafB ⟨k, t, n, a, l⟩ = true) : l = [] ∧ lex1 (textN ⟨k, t, n, a, l⟩) = some (k, bl t, n, (textN ⟨k, t, n, a, l⟩).length) := by
  rw [leafB, if_neg h4, Bool.and_eq_true, decide_eq_true_eq] at h
  obtain ⟨h0, h⟩ := h
  refine ⟨List.length_eq_zero_iff.1 h0, ?_⟩
  rw [textN]
  by_cases h01 : k = 0 ∨ k = 1
  · rw [if_pos h01, alone_self k t n h01] at h
    rw [if_neg (by omega), if_neg h4]
    exact h.2.2
  · rw [if_neg h01] at h
    by_cases h2 : k = 2
    · rw [if_pos h2, beq_iff_eq] at h
      rw [if_pos h2, lex1_quote, h2, h]
    · rw [if_neg h2] at h
      by_cases h3 : k = 3
      · rw [if_pos h3, Bool.and_eq_true, beq_iff_eq, beq_iff_eq, toList_bl] at h
        rw [if_neg h2, if_neg h4, h.2, h3, h.1]
        first | done | decide
      · rw [if_neg h3] at h; cases h
theorem sep_nil : sepL [] := fun c r h => by cases h
theorem sep_cons (c : UInt8) (r : List UInt8) (h1 : nameU c = false) (h2 : numU c = false) : sepL (c :: r) := fun d s h => by injection h with h3 _; subst h3; exact ⟨h1, h2⟩
theorem preE_two (a b : List TokS) (x) : preE a (preE b x) = preE (a ++ b) x := preE_preE a b x
end Go.Proofs.YtngcojabofkbjaaDoor.P
namespace Go.Proofs.YtngcojabofkbjaaDoor.P
open Go.RowKit Go.Proofs.YtngcojabofkbjaaDoorW.PrintWords Go.Proofs.YtngcojabofkbjaaDoorW.PrintLast Go.Proofs.YtngcojabofkbjaaDoorW.PrintMore
set_option linter.unusedVariables false
set_option linter.unusedSimpArgs false
mutual
/-- A node without where it begins. -/
def erN : NodeS → NodeS
  | ⟨k, t, n, _, l⟩ => ⟨k, t, n, 0, erL l⟩
def erL : List NodeS → List NodeS
  | [] => []
  | x :: r => erN x :: erL r
end
theorem doesI_bare (t : TokS) : doesI t = if t.f0 ≠ 3 ∨ bl t.f1 = [46] then 0 else if bl t.f1 = [40] then 1 else if bl t.f1 = [41] then 2 else 3 := by
  unfold doesI
  rw [toList_bl]
theorem does_open (t : TokS) (h : bareT t = (3, [40], 0)) : doesI t = 1 := by
  simp only [bareT, Prod.mk.injEq] at h
  rw [doesI_bare, h.1, h.2.1, if_neg (by decide), if_pos rfl]
theorem does_shut (t : TokS) (h : bareT t = (3, [41], 0)) : doesI t = 2 := by
  simp only [bareT, Prod.mk.injEq] at h
  rw [doesI_bare, h.1, h.2.1, if_neg (by decide), if_neg (by decide), if_pos rfl]
theorem bare_leaf (t : TokS) (k : Int) (s : ByteArray) (n : Int) (h : bareT t = (k, bl s, n)) : t.f0 = k ∧ t.f1 = s ∧ t.f2 = n := by
  simp only [bareT, Prod.mk.injEq] at h
  exact ⟨h.1, eq_of_bl h.2.1, h.2.2⟩
theorem does_leaf (t : TokS) (k : Int) (s : ByteArray) (n : Int) (a : Int) (l : List NodeS) (h4 : k ≠ 4) (hx : leafB ⟨k, s, n, a, l⟩ = true) (h : bareT t = (k, bl s, n)) : doesI t = 0 := by
  obtain ⟨h1, h2, h3⟩ := bare_leaf t k s n h
  rw [doesI_bare, h1, h2]
  rw [leafB, if_neg h4, Bool.and_eq_true] at hx
  by_cases hk : k = 3
  · subst hk
    have := hx.2
    rw [if_neg (by decide), if_neg (by decide), if_pos rfl, Bool.and_eq_true, beq_iff_eq, beq_iff_eq, toList_bl] at this
    rw [if_pos (.inr this.2)]
  · rw [if_pos (.inl hk)]
theorem top_snoc (st : List NodeS) (n : NodeS) : topN (st ++ [n]) = n := by
  unfold topN
  simp
theorem add_snoc (st : List NodeS) (n x : NodeS) : addTop (st ++ [n]) x = st ++ [⟨n.f0, n.f1, n.f2, n.f3, n.f4 ++ [x]⟩] := by
  unfold addTop
  rw [top_snoc]
  simp
def roomT (st : List NodeS) (h : Nat) : Prop := h = 0 ∨ st.length - 1 + h ≤ 16
theorem snoc_of (st : List NodeS) (h : 0 < st.length) : ∃ s n, st = s ++ [n] := by
  have hn : st ≠ [] := by intro e; rw [e] at h; simp at h
  exact ⟨st.dropLast, st.getLast hn, (List.dropLast_concat_getLast hn).symm⟩
theorem not_full (st : List NodeS) (n : NodeS) (h : 0 < st.length) : ¬ ((st ++ [n]).length = 1 ∧ (topN (st ++ [n])).f4.length = 1) := by
  rintro ⟨h1, _⟩
  rw [List.length_append, List.length_cons, List.length_nil] at h1
  omega
theorem room_snoc (st : List NodeS) (n : NodeS) (h : Nat) : roomT (st ++ [n]) h ↔ (h = 0 ∨ st.length + h ≤ 16) := by
  unfold roomT
  rw [List.length_append, List.length_cons, List.length_nil, Nat.zero_add, Nat.add_sub_cancel]
def firstAt (ts : List TokS) : Int := match ts with
  | [] => 0
  | t :: _ => t.f3
def ParseP (x : NodeS) : Prop := ∀ (ts : List TokS) (st : List NodeS) (rest : List TokS), ts.map bareT = toksB x → 0 < st.length → ¬ (st.length = 1 ∧ (topN st).f4.length = 1) → roomT st (hgt x) →
  ∃ x', erN x' = erN x ∧ x'.f3 = firstAt ts ∧ parseL (ts ++ rest) st = parseL rest (addTop st x')
theorem node_eta (n : NodeS) (l : List NodeS) (h : n.f4 = l) : (⟨n.f0, n.f1, n.f2, n.f3, l⟩ : NodeS) = n := by
  obtain ⟨a, b, c, d, e⟩ := n
  simp only at h
  rw [h]
theorem parse_list (l : List NodeS) (ih : ∀ x ∈ l, ParseP x) : ∀ (ts : List TokS) (st : List NodeS) (n : NodeS) (rest : List TokS), ts.map bareT = toksBL l → 0 < st.length → (∀ x ∈ l, hgt x = 0 ∨ st.length + hgt x ≤ 16) →
    ∃ xs, erL xs = erL l ∧ parseL (ts ++ rest) (st ++ [n]) = parseL rest (st ++ [⟨n.f0, n.f1, n.f2, n.f3, n.f4 ++ xs⟩]) := by
  induction l with
  | nil =>
    intro ts st n rest h hs hr
    rw [toksBL, List.map_eq_nil_iff] at h
    subst h
    refine ⟨[], rfl, ?_⟩
    rw [List.append_nil, node_eta n _ rfl]; rfl
  | cons x r ihr =>
    intro ts st n rest h hs hr
    rw [toksBL, List.map_eq_append_iff] at h
    obtain ⟨t1, t2, rfl, h1, h2⟩ := h
    obtain ⟨x', e1, _, e2⟩ := ih x (by simp) t1 (st ++ [n]) (t2 ++ rest) h1 (by simp) (not_full st n hs) ((room_snoc _ _ _).2 (hr x (by simp)))
    rw [add_snoc] at e2
    obtain ⟨xs, e3, e4⟩ := ihr (fun y hy => ih y (by simp [hy])) t2 st ⟨n.f0, n.f1, n.f2, n.f3, n.f4 ++ [x']⟩ rest h2 hs (fun y hy => hr y (by simp [hy]))
    refine ⟨x' :: xs, by rw [erL, erL, e1, e3], ?_⟩
    rw [List.append_assoc, e2, e4]
    simp
theorem parse_open (t : TokS) (ts : List TokS) (st : List NodeS) (h : doesI t = 1) (hf : ¬ (st.length = 1 ∧ (topN st).f4.length = 1)) : parseL (t :: ts) st = if st.length > 16 then .inr (t.f3, 2) else parseL ts (st ++ [⟨4, ⟨#[]⟩, 0, t.f3, []⟩]) := by
  rw [parseL, if_neg hf, h, if_neg (by decide), if_neg (by omega)]
  by_cases hl : st.length > 16
  · rw [if_pos ⟨rfl, hl⟩, if_pos hl]
  · rw [if_neg (fun h2 => hl h2.2), if_pos rfl, if_neg hl]
theorem parse_shut (t : TokS) (ts : List TokS) (st : List NodeS) (n : NodeS) (h : doesI t = 2) (hs : 0 < st.length) : parseL (t :: ts) (st ++ [n]) = parseL ts (addTop st n) := by
  rw [parseL, if_neg (not_full st n hs), h, if_neg (by decide), if_neg (by rintro ⟨_, h1⟩; rw [List.length_append, List.length_cons, List.length_nil] at h1; omega), if_neg (by omega), if_neg (by omega), if_pos rfl, top_snoc]
  simp
theorem parse_atom (t : TokS) (ts : List TokS) (st : List NodeS) (h : doesI t = 0) (hf : ¬ (st.length = 1 ∧ (topN st).f4.length = 1)) : parseL (t :: ts) st = parseL ts (addTop st ⟨t.f0, t.f1, t.f2, t.f3, []⟩) := by
  rw [parseL, if_neg hf, h, if_neg (by decide), if_neg (by omega), if_neg (by omega), if_neg (by decide), if_neg (by decide)]
theorem parse_node : ∀ (N : Nat) (x : NodeS), SizeOf.sizeOf x ≤ N → leafB x = true → ParseP x := by
  intro N
  induction N with
  | zero => intro x hN; obtain ⟨k, t, n, a, l⟩ := x; simp only [S39.mk.sizeOf_spec] at hN; omega
  | succ N ih =>
    intro x hN hx ts st rest hts hs hf hr
    obtain ⟨k, t, n, a, l⟩ := x
    by_cases h4 : k = 4
    · subst h4
      have hx2 := hx
      rw [leafB, if_pos rfl, Bool.and_eq_true, Bool.and_eq_true, leafL_all, beq_iff_eq, toList_nil] at hx2
      obtain ⟨hn, ht, hl⟩ := hx2
      rw [toksB, if_pos rfl] at hts
      obtain ⟨t0, ts1, rfl, h0, h1⟩ := List.map_eq_cons_iff.1 hts
      obtain ⟨tl, ts2, rfl, h2, h3⟩ := List.map_eq_append_iff.1 h1
      obtain ⟨t1, ts3, rfl, h5, h6⟩ := List.map_eq_cons_iff.1 h3
      rw [List.map_eq_nil_iff] at h6
      subst h6
      rw [hgt, if_pos rfl] at hr
      have hr2 : st.length - 1 + (1 + hgtL l) ≤ 16 := by rcases hr with h | h; omega; exact h
      have hh := (hgtL_le l (16 - st.length)).1 (by omega)
      obtain ⟨xs, e1, e2⟩ := parse_list l (fun y hy => ih y (by have := size_in ⟨4, t, n, a, l⟩ y hy; omega) (hl y hy)) tl st ⟨4, ⟨#[]⟩, 0, t0.f3, []⟩ ([t1] ++ rest) h2 hs (fun y hy => .inr (by have := hh y hy; omega))
      refine ⟨⟨4, ⟨#[]⟩, 0, t0.f3, xs⟩, ?_, rfl, ?_⟩
      · rw [erN, erN, e1, hn, eq_of_bl (a := t) (b := ⟨#[]⟩) ht]
      · rw [List.cons_append, parse_open t0 _ st (does_open t0 h0) hf, if_neg (by omega), List.append_assoc, e2]
        simp only [List.nil_append, List.cons_append]
        exact parse_shut t1 rest st _ (does_shut t1 h5) hs
    · rw [toksB, if_neg h4] at hts
      obtain ⟨t0, ts1, rfl, h0, h1⟩ := List.map_eq_cons_iff.1 hts
      rw [List.map_eq_nil_iff] at h1
      subst h1
      obtain ⟨rfl, _⟩ := lex1_leaf k t n a l h4 hx
      obtain ⟨q1, q2, q3⟩ := bare_leaf t0 k t n h0
      refine ⟨⟨t0.f0, t0.f1, t0.f2, t0.f3, []⟩, by rw [erN, erN, q1, q2, q3], rfl, ?_⟩
      exact parse_atom t0 rest st (does_leaf t0 k t n a [] h4 hx h0) hf
def DeepP (x : NodeS) : Prop := ∀ (ts : List TokS) (st : List NodeS) (rest : List TokS), ts.map bareT = toksB x → 0 < st.length → st.length ≤ 17 → ¬ (st.length = 1 ∧ (topN st).f4.length = 1) → ¬ roomT st (hgt x) → ∃ p, parseL (ts ++ rest) st = .inr (p, 2)
theorem deep_list (l : List NodeS) (ih : ∀ x ∈ l, DeepP x) (hl : ∀ x ∈ l, leafB x = true) : ∀ (ts : List TokS) (st : List NodeS) (n : NodeS) (rest : List TokS), ts.map bareT = toksBL l → 0 < st.length → st.length ≤ 16 → (∃ x ∈ l, ¬ (hgt x = 0 ∨ st.length + hgt x ≤ 16)) →
    ∃ p, parseL (ts ++ rest) (st ++ [n]) = .inr (p, 2) := by
  induction l with
  | nil => intro ts st n rest h hs hr hd; obtain ⟨x, hx, _⟩ := hd; cases hx
  | cons x r ihr =>
    intro ts st n rest h hs hr hd
    rw [toksBL, List.map_eq_append_iff] at h
    obtain ⟨t1, t2, rfl, h1, h2⟩ := h
    rw [List.append_assoc]
    by_cases hx : hgt x = 0 ∨ st.length + hgt x ≤ 16
    · obtain ⟨x', e1, _, e2⟩ := parse_node _ x (Nat.le_refl _) (hl x (by simp)) t1 (st ++ [n]) (t2 ++ rest) h1 (by simp) (not_full st n hs) ((room_snoc _ _ _).2 hx)
      rw [e2, add_snoc]
      refine ihr (fun y hy => ih y (by simp [hy])) (fun y hy => hl y (by simp [hy])) t2 st _ rest h2 hs hr ?_
      obtain ⟨y, hy, hd⟩ := hd
      rcases List.mem_cons.1 hy with rfl | hy
      · exact absurd hx hd
      · exact ⟨y, hy, hd⟩
    · exact ih x (by simp) t1 (st ++ [n]) (t2 ++ rest) h1 (by simp) (by simp; omega) (not_full st n hs) (fun h9 => hx ((room_snoc _ _ _).1 h9))
theorem deep_node : ∀ (N : Nat) (x : NodeS), SizeOf.sizeOf x ≤ N → leafB x = true → DeepP x := by
  intro N
  induction N with
  | zero => intro x hN; obtain ⟨k, t, n, a, l⟩ := x; simp only [S39.mk.sizeOf_spec] at hN; omega
  | succ N ih =>
    intro x hN hx ts st rest hts hs hs2 hf hr
    obtain ⟨k, t, n, a, l⟩ := x
    by_cases h4 : k = 4
    · subst h4
      rw [leafB, if_pos rfl, Bool.and_eq_true, Bool.and_eq_true, leafL_all, beq_iff_eq, toList_nil] at hx
      obtain ⟨hn, ht, hl⟩ := hx
      rw [toksB, if_pos rfl] at hts
      obtain ⟨t0, ts1, rfl, h0, h1⟩ := List.map_eq_cons_iff.1 hts
      obtain ⟨tl, ts2, rfl, h2, h3⟩ := List.map_eq_append_iff.1 h1
      rw [hgt, if_pos rfl] at hr
      unfold roomT at hr
      rw [List.cons_append, parse_open t0 _ st (does_open t0 h0) hf]
      by_cases hl16 : st.length > 16
      · rw [if_pos hl16]; exact ⟨_, rfl⟩
      · rw [if_neg hl16, List.append_assoc]
        refine deep_list l (fun y hy => ih y (by have := size_in ⟨4, t, n, a, l⟩ y hy; omega) (hl y hy)) hl tl st _ _ h2 hs (by omega) ?_
        by_cases hall : ∀ y ∈ l, hgt y ≤ 16 - st.length
        · have h7 := (hgtL_le l (16 - st.length)).2 hall; exfalso; apply hr; right; omega
        · simp only [Classical.not_forall] at hall
          obtain ⟨y, hy, hd⟩ := hall
          exact ⟨y, hy, by omega⟩
    · rw [hgt, if_neg h4] at hr
      exact absurd (.inl rfl) hr
def incF : Int → List NodeS → Int → Prop
  | last, [], b => last < b
  | last, y :: r, b => last < y.f3 ∧ incF y.f3 r b
theorem incF_mono : ∀ (l : List NodeS) (last b c : Int), b ≤ c → incF last l b → incF last l c
  | [], last, b, c, h, h2 => by simp only [incF] at h2 ⊢; omega
  | _ :: r, _, b, c, h, ⟨h1, h2⟩ => ⟨h1, incF_mono r _ b c h h2⟩
theorem incF_snoc : ∀ (l : List NodeS) (last b : Int) (y : NodeS), incF last l y.f3 → y.f3 < b → incF last (l ++ [y]) b
  | [], last, b, y, h, h2 => ⟨h, h2⟩
  | z :: r, last, b, y, ⟨h1, h2⟩, h3 => ⟨h1, incF_snoc r _ b y h2 h3⟩
def goodY (S : Int) (i : Nat) (y : NodeS) : Prop := mayB y (i : Int) = true ∧ incF y.f3 y.f4 S ∧ 0 ≤ y.f3
def nodG (S : Int) (i : Nat) (n : NodeS) (b : Int) : Prop := (∀ y ∈ n.f4, goodY S i y) ∧ (0 < i → n.f0 = 4 ∧ n.f1 = ⟨#[]⟩ ∧ n.f2 = 0 ∧ 0 ≤ n.f3 ∧ incF n.f3 n.f4 b)
def stG (S : Int) : Int → Nat → List NodeS → Prop
  | _, _, [] => True
  | b, i, [n] => nodG S i n b
  | b, i, n :: m :: r => nodG S i n m.f3 ∧ stG S b (i + 1) (m :: r)
theorem nodG_mono (S : Int) (i : Nat) (n : NodeS) (b c : Int) (h : b ≤ c) (hn : nodG S i n b) : nodG S i n c :=
  ⟨hn.1, fun hi => ⟨(hn.2 hi).1, (hn.2 hi).2.1, (hn.2 hi).2.2.1, (hn.2 hi).2.2.2.1, incF_mono _ _ _ _ h (hn.2 hi).2.2.2.2⟩⟩
theorem stG_mono (S : Int) : ∀ (st : List NodeS) (i : Nat) (b c : Int), b ≤ c → stG S b i st → stG S c i st
  | [], _, _, _, _, _ => trivial
  | [n], i, b, c, h, h2 => nodG_mono S i n b c h h2
  | _ :: m :: r, i, b, c, h, ⟨h1, h2⟩ => ⟨h1, stG_mono S (m :: r) (i + 1) b c h h2⟩
theorem stG_snoc (S b : Int) (n : NodeS) : ∀ (st : List NodeS) (i : Nat), stG S b i (st ++ [n]) ↔ stG S n.f3 i st ∧ nodG S (i + st.length) n b
  | [], i => by simp [stG]
  | [m], i => by simp [stG]
  | k :: m :: r, i => by
    have := stG_snoc S b n (m :: r) (i + 1)
    simp only [List.cons_append, stG] at this ⊢
    rw [this, and_assoc]
    simp only [List.length_cons]
    rw [show i + 1 + (r.length + 1) = i + (r.length + 1 + 1) from by omega]
def flatS : List NodeS → List Bare
  | [] => []
  | [n] => toksBL n.f4
  | n :: m :: r => toksBL n.f4 ++ (3, [40], 0) :: flatS (m :: r)
theorem flatS_snoc (n : NodeS) : ∀ (st : List NodeS), 0 < st.length → flatS (st ++ [n]) = flatS st ++ (3, [40], 0) :: toksBL n.f4
  | [], h => by simp at h
  | [m], _ => by simp [flatS]
  | k :: m :: r, _ => by
    have := flatS_snoc n (m :: r) (by simp)
    simp only [List.cons_append, flatS] at this ⊢
    rw [this]; simp
theorem toksBL_snoc (l : List NodeS) (x : NodeS) : toksBL (l ++ [x]) = toksBL l ++ toksB x := by
  induction l with
  | nil => simp [toksBL]
  | cons y r ih => simp only [List.cons_append, toksBL, ih, List.append_assoc]
theorem flatS_add (st : List NodeS) (x : NodeS) (h : 0 < st.length) : flatS (addTop st x) = flatS st ++ toksB x := by
  obtain ⟨s, n, rfl⟩ := snoc_of st h
  rw [add_snoc]
  cases s with
  | nil => simp [flatS, toksBL_snoc]
  | cons a r => rw [flatS_snoc _ _ (by simp), flatS_snoc _ _ (by simp), toksBL_snoc]; simp
def SoundR (S : Int) (st : List NodeS) (ts : List TokS) : List NodeS ⊕ (Int × Int) → Prop
  | .inl st' => 0 < st'.length ∧ (st'.getD 0 zN).f4.length ≤ 1 ∧ stG S S 0 st' ∧ flatS st' = flatS st ++ ts.map bareT
  | .inr (p, e) => (e = 4 ∨ e = 2) ∧ 0 ≤ p ∧ p < S
theorem atom_may (t : TokS) (i : Nat) (hok : tokOk t) (hsz : selfT t.f0 (bl t.f1) t.f2 → t.f1.size ≤ 5000) (hd : doesI t = 0) : mayB ⟨t.f0, t.f1, t.f2, t.f3, []⟩ (i : Int) = true ∧ t.f0 ≠ 4 := by
  rcases hok with h | h | h
  · refine ⟨?_, by have := h.1; omega⟩
    rw [mayB, if_pos h.1, Bool.and_eq_true]
    exact ⟨by simp, (alone_self _ _ _ h.1).2 ⟨hsz h, h⟩⟩
  · refine ⟨?_, by omega⟩
    rw [mayB, if_neg (by omega), if_pos h.1, h.2]
    simp
  · refine ⟨?_, by omega⟩
    have h46 : bl t.f1 = [46] := by
      rw [doesI_bare, h.1] at hd
      by_cases h5 : bl t.f1 = [46]
      · exact h5
      · rw [if_neg (by simp [h5])] at hd
        split at hd
        · cases hd
        · split at hd <;> cases hd
    rw [mayB, if_neg (by omega), if_neg (by omega), if_pos h.1, h.2.1, toList_bl, h46]
    simp
theorem addTop_pos (st : List NodeS) (x : NodeS) (h : 0 < st.length) : 0 < (addTop st x).length := by rw [addTop_len]; exact h
theorem stG_add (S b c : Int) (st : List NodeS) (y : NodeS) (h : stG S b 0 st) (hs : 0 < st.length) (hy : goodY S (st.length - 1) y) (hb : b ≤ y.f3) (hc : y.f3 < c) : stG S c 0 (addTop st y) := by
  obtain ⟨s, n, rfl⟩ := snoc_of st hs
  rw [add_snoc]
  rw [stG_snoc] at h ⊢
  simp only [List.length_append, List.length_cons, List.length_nil, Nat.zero_add, Nat.add_sub_cancel] at hy h ⊢
  refine ⟨h.1, fun z hz => ?_, fun hi => ?_⟩
  · rcases List.mem_append.1 hz with hz | hz
    · exact h.2.1 z hz
    · rw [List.mem_singleton.1 hz]; exact hy
  · obtain ⟨q1, q2, q3, q4, q5⟩ := h.2.2 hi
    exact ⟨q1, q2, q3, q4, incF_snoc _ _ _ _ (incF_mono _ _ _ _ hb q5) hc⟩
def rootOk (st : List NodeS) : Prop := (st.getD 0 zN).f4.length ≤ 1 ∧ (1 < st.length → (st.getD 0 zN).f4.length = 0)
theorem root_top (st : List NodeS) (h : st.length = 1) : topN st = st.getD 0 zN := by unfold topN; rw [h]
theorem root_add (st : List NodeS) (x : NodeS) (h : rootOk st) (hs : 0 < st.length) (h1 : st.length = 1 → (st.getD 0 zN).f4.length = 0) : rootOk (addTop st x) := by
  obtain ⟨s, n, rfl⟩ := snoc_of st hs
  rw [add_snoc]
  cases s with
  | nil =>
    have := h1 rfl
    simp only [List.nil_append, List.getD_cons_zero] at this
    refine ⟨?_, fun h2 => by simp at h2⟩
    simp only [List.nil_append, List.getD_cons_zero, List.length_append, List.length_cons, List.length_nil]
    omega
  | cons a r =>
    simp only [rootOk, List.cons_append, List.getD_cons_zero] at h ⊢
    exact ⟨h.1, fun _ => h.2 (by simp)⟩
theorem parse_sound (S : Int) : ∀ (ts : List TokS) (st : List NodeS) (b : Int), incT b ts → 0 ≤ b → b ≤ S → (∀ t ∈ ts, tokOk t ∧ (selfT t.f0 (bl t.f1) t.f2 → t.f1.size ≤ 5000) ∧ t.f3 < S) → 0 < st.length → st.length ≤ 17 → rootOk st → stG S b 0 st → SoundR S st ts (parseL ts st)
  | [], st, b, _, _, hbS, _, hs, _, hf, hg => by
    rw [parseL]
    exact ⟨hs, hf.1, stG_mono S st 0 b S hbS hg, by simp⟩
  | t :: ts, st, b, ⟨hi1, hi2⟩, hb0, hbS, hts, hs, hs2, hf, hg => by
    obtain ⟨hok, hsz, hlt⟩ := hts t (by simp)
    have hts2 : ∀ u ∈ ts, tokOk u ∧ (selfT u.f0 (bl u.f1) u.f2 → u.f1.size ≤ 5000) ∧ u.f3 < S := fun u hu => hts u (by simp [hu])
    have herr : ∀ e, e = 4 ∨ e = 2 → SoundR S st (t :: ts) (.inr (t.f3, e)) := fun e he => ⟨he, by omega, hlt⟩
    have hstep : ∀ (st2 : List NodeS), 0 < st2.length → st2.length ≤ 17 → rootOk st2 → stG S (t.f3 + 1) 0 st2 → flatS st2 = flatS st ++ [bareT t] → SoundR S st (t :: ts) (parseL ts st2) := by
      intro st2 g1 g2 g3 g4 g5
      have := parse_sound S ts st2 (t.f3 + 1) hi2 (by omega) (by omega) hts2 g1 g2 g3 g4
      cases hr : parseL ts st2 with
      | inr e => rw [hr] at this; exact this
      | inl st3 =>
        rw [hr] at this
        refine ⟨this.1, this.2.1, this.2.2.1, ?_⟩
        rw [this.2.2.2, g5, List.map_cons]; simp
    rw [parseL]
    by_cases c1 : st.length = 1 ∧ (topN st).f4.length = 1
    · rw [if_pos c1]; exact herr 4 (.inl rfl)
    · rw [if_neg c1]
      by_cases c2 : doesI t = 3
      · rw [if_pos c2]; exact herr 4 (.inl rfl)
      · rw [if_neg c2]
        by_cases c3 : doesI t = 2 ∧ st.length = 1
        · rw [if_pos c3]; exact herr 4 (.inl rfl)
        · rw [if_neg c3]
          by_cases c4 : doesI t = 1 ∧ st.length > 16
          · rw [if_pos c4]; exact herr 2 (.inr rfl)
          · rw [if_neg c4]
            have hsig : (doesI t = 1 → bareT t = (3, [40], 0)) ∧ (doesI t = 2 → bareT t = (3, [41], 0)) := by
              rw [doesI_bare]
              rcases hok with h | h | h
              · rw [if_pos (.inl (by have := h.1; omega))]; exact ⟨fun h => (by cases h), fun h => (by cases h)⟩
              · rw [if_pos (.inl (by omega))]; exact ⟨fun h => (by cases h), fun h => (by cases h)⟩
              · refine ⟨fun h1 => ?_, fun h1 => ?_⟩
                · by_cases h5 : bl t.f1 = [40]
                  · simp only [bareT, h.1, h.2.1, h5]
                  · exfalso; revert h1; repeat' split
                    all_goals first | (intro h1; cases h1; done) | (intro _; exact absurd (by assumption) h5)
                · by_cases h5 : bl t.f1 = [41]
                  · simp only [bareT, h.1, h.2.1, h5]
                  · exfalso; revert h1; repeat' split
                    all_goals first | (intro h1; cases h1; done) | (intro _; exact absurd (by assumption) h5)
            have hroot : (st.getD 0 zN).f4.length = 0 := by
              by_cases h1 : st.length = 1
              · have h8 := hf.1
                have h9 : ¬ (topN st).f4.length = 1 := fun h => c1 ⟨h1, h⟩
                rw [root_top st h1] at h9
                omega
              · exact hf.2 (by omega)
            by_cases c5 : doesI t = 1
            · rw [if_pos c5]
              refine hstep _ (by simp) (by simp; omega) ?_ ?_ ?_
              · have h0 : (st.getD 0 zN).f4.length = 0 := hroot
                obtain ⟨s, n, rfl⟩ := snoc_of st hs
                refine ⟨?_, fun _ => ?_⟩ <;> (cases s with
                  | nil => simp only [List.nil_append, List.cons_append, List.getD_cons_zero] at h0 ⊢; omega
                  | cons a r => simp only [List.cons_append, List.getD_cons_zero] at h0 ⊢; omega)
              · rw [stG_snoc]
                refine ⟨stG_mono S st 0 b t.f3 hi1 hg, fun y hy => (by cases hy), fun _ => ⟨rfl, rfl, rfl, by show 0 ≤ t.f3; omega, by show t.f3 < t.f3 + 1; omega⟩⟩
              · rw [flatS_snoc _ _ hs, hsig.1 c5]; rfl
            · rw [if_neg c5]
              by_cases c6 : doesI t = 2
              · rw [if_pos c6]
                have hl2 : 1 < st.length := by have : ¬ st.length = 1 := fun h => c3 ⟨c6, h⟩; omega
                obtain ⟨s, n, rfl⟩ := snoc_of st hs
                have hs0 : 0 < s.length := by simp at hl2; exact hl2
                rw [top_snoc]
                have e : (s ++ [n]).take ((s ++ [n]).length - 1) = s := by simp
                rw [e]
                rw [stG_snoc] at hg
                obtain ⟨hg1, hg2, hg3⟩ := hg
                obtain ⟨q1, q2, q3, q4, q5⟩ := hg3 (by omega)
                have hr0 : (s.getD 0 zN).f4.length = 0 := by
                  cases s with
                  | nil => simp at hs0
                  | cons a r => simpa only [List.cons_append, List.getD_cons_zero] using hroot
                have hsl : s.length ≤ 16 := by simp at hs2; exact hs2
                have hgood : goodY S (s.length - 1) n := by
                  refine ⟨?_, incF_mono _ _ _ _ hbS q5, q4⟩
                  obtain ⟨k, x, m, a, l⟩ := n
                  simp only at q1 q2 q3 hg2
                  subst q1 q2 q3
                  rw [mayB, if_neg (by decide), if_neg (by decide), if_neg (by decide), if_pos rfl, wrap_small _ (by omega) (by omega), mayL_all]
                  have hi : ((s.length - 1 : Nat) : Int) + 1 = ((0 + s.length : Nat) : Int) := by omega
                  rw [hi]
                  simp only [Bool.and_eq_true, List.all_eq_true, decide_eq_true_eq]
                  exact ⟨fun y hy => (hg2 y hy).1, by decide, (toList_nil _).2 rfl, by omega⟩
                have hlast : n.f3 < b := by
                  have : ∀ (l : List NodeS) (a c : Int), incF a l c → a < c := by
                    intro l
                    induction l with
                    | nil => intro a c h; exact h
                    | cons z r ih => intro a c h; have := ih _ _ h.2; have := h.1; omega
                  exact this _ _ _ q5
                refine hstep _ (addTop_pos s n hs0) (by rw [addTop_len]; omega) (root_add s n ⟨by rw [hr0]; omega, fun _ => hr0⟩ hs0 (fun _ => hr0)) (stG_add S n.f3 (t.f3 + 1) s n hg1 hs0 hgood (by omega) (by omega)) ?_
                · rw [flatS_add s n hs0, flatS_snoc n s hs0, hsig.2 c6]
                  obtain ⟨k, x, m, a, l⟩ := n
                  simp only at q1
                  subst q1
                  rw [toksB, if_pos rfl]
                  simp
              · rw [if_neg c6]
                have c0 : doesI t = 0 := by have := doesI_cases t; omega
                obtain ⟨hm, h4⟩ := atom_may t (st.length - 1) hok hsz c0
                refine hstep _ (addTop_pos st _ hs) (by rw [addTop_len]; exact hs2) (root_add st _ hf hs (fun _ => hroot)) (stG_add S b (t.f3 + 1) st _ hg hs ⟨hm, by show t.f3 < S; omega, by show 0 ≤ t.f3; omega⟩ (by show b ≤ t.f3; omega) (by show t.f3 < t.f3 + 1; omega)) ?_
                · rw [flatS_add st _ hs, toksB, if_neg h4]; rfl
end Go.Proofs.YtngcojabofkbjaaDoor.P
namespace Go.Proofs.YtngcojabofkbjaaDoor.P
open Go.RowKit Go.Proofs.YtngcojabofkbjaaDoorW.PrintWords Go.Proofs.YtngcojabofkbjaaDoorW.PrintLast Go.Proofs.YtngcojabofkbjaaDoorW.PrintMore
set_option linter.unusedVariables false
set_option linter.unusedSimpArgs false
def Parsed (s : ByteArray) (x : NodeS) (ts : List TokS) : Prop := s.size ≤ 5000 ∧ scan 1000 0 (bl s) = .inl ts ∧ ts.map bareT = toksB x ∧ mayB x 0 = true ∧ incF x.f3 x.f4 s.size ∧ 0 ≤ x.f3 ∧ ts.length ≤ 1000
theorem toksBL_one (x : NodeS) : toksBL [x] = toksB x := by rw [toksBL, toksBL, List.append_nil]
theorem parse_facts (s : ByteArray) : ((parseN s).2.2 = 0 ∧ (parseN s).2.1 = s.size ∧ ∃ ts, Parsed s (parseN s).1 ts) ∨ (((parseN s).2.2 = 4 ∨ (parseN s).2.2 = 2) ∧ (parseN s).1 = zN ∧ 0 ≤ (parseN s).2.1 ∧ (parseN s).2.1 ≤ s.size) := by
  by_cases hs : 5000 < s.size
  · have he := allF_big' s hs
    have h0 : (allF s).2.1 = 0 := by unfold allF; rw [if_pos (by omega)]
    have hp : parseN s = (zN, (allF s).2.1, (allF s).2.2) := by unfold parseN; exact if_pos (by omega)
    rw [hp]
    exact .inr ⟨.inr he, rfl, by show 0 ≤ (allF s).2.1; omega, by show (allF s).2.1 ≤ _; omega⟩
  · have ha : allF s = endL s [] (scan 1000 0 (bl s)) := Option.some.inj (all_small s (by omega))
    cases hx : scan 1000 0 (bl s) with
    | inr e =>
      obtain ⟨p, e⟩ := e
      obtain ⟨h1, h2, h3⟩ := scan_err _ _ _ _ _ _ (Nat.le_refl _) hx
      have hp : parseN s = (zN, (p : Int), e) := by
        unfold parseN
        rw [ha, hx]
        exact if_pos (show e ≠ 0 by omega)
      rw [hp]
      rw [bl_length] at h3
      exact .inr ⟨h1, rfl, by simp only; omega, by simp only; omega⟩
    | inl ts =>
      have hp : parseN s = parseEnd s.size (parseL ts [zN]) := by
        unfold parseN
        rw [ha, hx]
        exact if_neg (show ¬ ((0 : Int) ≠ 0) by decide)
      rw [hp]
      obtain ⟨f1, f2⟩ := scan_facts _ _ _ _ _ (Nat.le_refl _) hx
      rw [bl_length] at f1
      have hsnd := parse_sound (s.size : Int) ts [zN] 0 f2 (Int.le_refl _) (by omega) (fun t ht => ⟨(f1 t ht).1, fun h => by have := (f1 t ht).2.1 h; omega, by have := (f1 t ht).2.2; omega⟩) (by decide) (by decide) ⟨by decide, fun h => by simp at h⟩
        ⟨fun y hy => (by cases hy), fun h => by omega⟩
      cases hr : parseL ts [zN] with
      | inr e =>
        obtain ⟨p, e⟩ := e
        rw [hr] at hsnd
        obtain ⟨h1, h2, h3⟩ := hsnd
        exact .inr ⟨h1, rfl, h2, by show p ≤ _; omega⟩
      | inl st =>
        rw [hr] at hsnd
        obtain ⟨h1, h2, h3, h4⟩ := hsnd
        simp only [parseEnd]
        by_cases hl : st.length > 1
        · rw [if_pos hl]; exact .inr ⟨.inl rfl, rfl, by simp only; omega, by simp only; omega⟩
        · rw [if_neg hl]
          by_cases hz : (st.getD 0 zN).f4.length = 0
          · rw [if_pos hz]; exact .inr ⟨.inl rfl, rfl, by simp only; omega, by simp only; omega⟩
          · rw [if_neg hz]
            refine .inl ⟨rfl, rfl, ts, by omega, hx, ?_⟩
            obtain ⟨n, rfl⟩ := List.length_eq_one_iff.1 (show st.length = 1 by omega)
            simp only [List.getD_cons_zero] at h2 hz ⊢
            obtain ⟨x, hx4⟩ := List.length_eq_one_iff.1 (show n.f4.length = 1 by omega)
            rw [hx4]
            simp only [List.getD_cons_zero]
            simp only [flatS, List.nil_append] at h4
            rw [hx4, toksBL_one] at h4
            obtain ⟨g1, g2, g3⟩ := h3.1 x (by rw [hx4]; simp)
            have hlen := scan_len _ _ _ _ _ (Nat.le_refl _) hx
            refine ⟨?_, g1, g2, g3, hlen.2⟩
            rw [h4]
            rfl
theorem toks_pos (x : NodeS) : 1 ≤ (toksB x).length := by
  obtain ⟨k, t, n, a, l⟩ := x
  rw [toksB]
  split <;> simp
theorem toksBL_le (l : List NodeS) : l.length ≤ (toksBL l).length ∧ ∀ y ∈ l, (toksB y).length ≤ (toksBL l).length := by
  induction l with
  | nil => simp [toksBL]
  | cons x r ih =>
    rw [toksBL, List.length_append, List.length_cons]
    have := toks_pos x
    refine ⟨by omega, fun y hy => ?_⟩
    rcases List.mem_cons.1 hy with rfl | hy
    · omega
    · have := ih.2 y hy; omega
theorem small_toks : ∀ (N : Nat) (x : NodeS), SizeOf.sizeOf x ≤ N → leafB x = true → (toksB x).length ≤ 140737488351232 → smallB x = true := by
  intro N
  induction N with
  | zero => intro x hN; obtain ⟨k, t, n, a, l⟩ := x; simp only [S39.mk.sizeOf_spec] at hN; omega
  | succ N ih =>
    intro x hN hx hl
    obtain ⟨k, t, n, a, l⟩ := x
    rw [smallB, Bool.and_eq_true, decide_eq_true_eq, smallL_all, List.all_eq_true]
    by_cases h4 : k = 4
    · subst h4
      rw [leafB, if_pos rfl, Bool.and_eq_true, Bool.and_eq_true, leafL_all] at hx
      rw [toksB, if_pos rfl] at hl
      simp only [List.length_cons, List.length_append, List.length_nil] at hl
      have := toksBL_le l
      exact ⟨by omega, fun y hy => ih y (by have := size_in ⟨4, t, n, a, l⟩ y hy; omega) (hx.2.2 y hy) (by have := this.2 y hy; omega)⟩
    · obtain ⟨rfl, _⟩ := lex1_leaf k t n a l h4 hx
      exact ⟨by simp, fun y hy => by cases hy⟩
theorem parsed_small (s : ByteArray) (x : NodeS) (ts : List TokS) (h : Parsed s x ts) : smallB x = true := by
  obtain ⟨_, _, h3, h4, _, _, h7⟩ := h
  refine small_toks _ x (Nat.le_refl _) ((may_top x).1 h4).1 ?_
  rw [← h3, List.length_map]
  omega
theorem mayF_eq (x : NodeS) (h : smallB x = true) : sexp_May.f x.f0 x.f1 x.f2 x.f3 x.f4 = some (mayB x 0) := by
  unfold sexp_May.f sexp_may.f
  rw [node_eta x _ rfl, if_pos h]
  rfl
theorem printF_eq (x : NodeS) (h : smallB x = true) (hl : (textN x).length ≤ 1000000000000) : sexp_Print.f x.f0 x.f1 x.f2 x.f3 x.f4 = some (if mayB x 0 = true then textS x else ⟨#[]⟩) := by
  unfold sexp_Print.f
  rw [mayF_eq x h]
  simp only [Option.bind_some]
  by_cases hm : mayB x 0 = true
  · rw [if_pos hm, if_pos hm]
    unfold sexp_text.f
    rw [node_eta x _ rfl, if_pos hl]
    rfl
  · rw [if_neg hm, if_neg hm]
theorem sameF_eq (x y : NodeS) (h : smallB x = true) (h2 : smallB y = true) : sexp_Same.f x.f0 x.f1 x.f2 x.f3 x.f4 y.f0 y.f1 y.f2 y.f3 y.f4 = some (sameB x y) := by
  unfold sexp_Same.f
  rw [node_eta x _ rfl, node_eta y _ rfl, if_pos ⟨h, h2⟩]
theorem itoa_5 : Lib.itoa 5 = [53] := by
  rw [show (5 : Int) = ((5 : Nat) : Int) from rfl, Lib.itoa_nonneg 5, Lib.decDigits_one (by omega)]
  decide
theorem parse_5 : Lib.parseIntB 64 [53] = .ok 5 := by decide
theorem numOk_5 : numOk [53] = true := by
  unfold numOk
  rw [parse_5]
  simp only [itoa_5, decide_true]
theorem numV_5 : numV [53] = 5 := by unfold numV; rw [parse_5]
theorem lex_5 (r : List UInt8) (hr : sepL r) : lex1 (53 :: r) = some (1, [53], 5, 1) := by
  have h : lex1 [53] = some (1, [53], 5, 1) := by
    rw [lex1_cons, if_neg (by decide), if_neg (by decide), if_pos (by decide)]
    have e : List.take (runN numU [53]) ([53] : List UInt8) = [53] := by decide
    have e2 : runN numU [53] = 1 := by decide
    rw [e, numOk_5, numV_5, if_pos rfl, e2]
  exact lex1_sep [53] r hr _ h
def exN : NodeS := ⟨4, ⟨#[]⟩, 0, 0, [⟨0, ⟨#[101, 113]⟩, 0, 1, []⟩, ⟨0, ⟨#[97]⟩, 0, 4, []⟩, ⟨1, ⟨#[53]⟩, 5, 6, []⟩]⟩
theorem allF_ex14 : allF ⟨#[40, 101, 113, 32, 97, 32, 53, 41]⟩ = ([⟨3, ⟨#[40]⟩, 0, 0⟩, ⟨0, ⟨#[101, 113]⟩, 0, 1⟩, ⟨0, ⟨#[97]⟩, 0, 4⟩, ⟨1, ⟨#[53]⟩, 5, 6⟩, ⟨3, ⟨#[41]⟩, 0, 7⟩], 8, 0) := by
  have e1 : lex1 [40, 101, 113, 32, 97, 32, 53, 41] = some (3, [40], 0, 1) := by decide
  have e2 : lex1 [101, 113, 32, 97, 32, 53, 41] = some (0, [101, 113], 0, 2) := by decide
  have e3 : lex1 [97, 32, 53, 41] = some (0, [97], 0, 1) := by decide
  have e4 : lex1 [53, 41] = some (1, [53], 5, 1) := lex_5 [41] (sep_cons _ _ (by decide) (by decide))
  have e5 : lex1 [41] = some (3, [41], 0, 1) := by decide
  have s0 : skipN false [40, 101, 113, 32, 97, 32, 53, 41] = 0 := by decide
  have s1 : skipN false [101, 113, 32, 97, 32, 53, 41] = 0 := by decide
  have s2 : skipN false [32, 97, 32, 53, 41] = 1 := by decide
  have s3 : skipN false [32, 53, 41] = 1 := by decide
  have s4 : skipN false [41] = 0 := by decide
  have s5 : skipN false [] = 0 := by decide
  have b : bl ⟨#[40, 101, 113, 32, 97, 32, 53, 41]⟩ = [40, 101, 113, 32, 97, 32, 53, 41] := rfl
  have z : (⟨#[40, 101, 113, 32, 97, 32, 53, 41]⟩ : ByteArray).size = 8 := rfl
  unfold allF allL
  rw [z, if_neg (by omega), b, s0]
  simp only [List.length_cons, List.length_nil, List.drop_zero, lexL, e1, e2, e3, e4, e5, s1, s2, s3, s4, s5, List.drop_succ_cons, List.drop_nil, endL, List.nil_append, z]
  rfl
theorem parse_ex14 : parseN ⟨#[40, 101, 113, 32, 97, 32, 53, 41]⟩ = (exN, 8, 0) := by
  unfold parseN
  rw [allF_ex14]
  have d1 : doesI ⟨3, ⟨#[40]⟩, 0, 0⟩ = 1 := does_open _ rfl
  have d2 : doesI ⟨0, ⟨#[101, 113]⟩, 0, 1⟩ = 0 := by rw [doesI_bare]; rfl
  have d3 : doesI ⟨0, ⟨#[97]⟩, 0, 4⟩ = 0 := by rw [doesI_bare]; rfl
  have d4 : doesI ⟨1, ⟨#[53]⟩, 5, 6⟩ = 0 := by rw [doesI_bare]; rfl
  have d5 : doesI ⟨3, ⟨#[41]⟩, 0, 7⟩ = 2 := does_shut _ rfl
  rw [if_neg (by decide)]
  simp only [parseL, d1, d2, d3, d4, d5]
  rfl
theorem may_ex14 : mayB exN 0 = true := by
  have h1 : aloneB 0 ⟨#[101, 113]⟩ 0 = true := (alone_self _ _ _ (.inl rfl)).2 ⟨by decide, .inl rfl, by decide⟩
  have h2 : aloneB 0 ⟨#[97]⟩ 0 = true := (alone_self _ _ _ (.inl rfl)).2 ⟨by decide, .inl rfl, by decide⟩
  have h3 : aloneB 1 ⟨#[53]⟩ 5 = true := (alone_self _ _ _ (.inr rfl)).2 ⟨by decide, .inr rfl, lex_5 [] sep_nil⟩
  have hb : ((⟨#[]⟩ : ByteArray).toList == []) = true := (toList_nil _).2 rfl
  unfold exN
  simp only [mayB, mayL, h1, h2, h3, hb]
  decide
theorem awake14_true : trufflelaw14_awake.f = some true := by
  unfold trufflelaw14_awake.f sexp_Parse.f
  rw [parse_ex14]
  have hs : smallB exN = true := by decide
  have ht : textN exN = [40, 101, 113, 32, 97, 32, 53, 41] := by decide
  simp only [Option.bind_some]
  rw [mayF_eq exN hs, printF_eq exN hs (by rw [ht]; decide), may_ex14]
  simp only [Option.bind_some, if_true, toList_bl, textS, ht]
  decide
end Go.Proofs.YtngcojabofkbjaaDoor.P
namespace Go.Proofs.YtngcojabofkbjaaDoor.P
open Go.RowKit Go.Proofs.YtngcojabofkbjaaDoorW.PrintWords Go.Proofs.YtngcojabofkbjaaDoorW.PrintLast Go.Proofs.YtngcojabofkbjaaDoorW.PrintMore
set_option linter.unusedVariables false
set_option linter.unusedSimpArgs false
theorem node_ext {k k' : Int} {t t' : ByteArray} {n n' a a' : Int} {l l' : List NodeS} : (⟨k, t, n, a, l⟩ : NodeS) = ⟨k', t', n', a', l'⟩ ↔ k = k' ∧ t = t' ∧ n = n' ∧ a = a' ∧ l = l' := by
  constructor
  · intro h; injection h with h1 h2 h3 h4 h5; exact ⟨h1, h2, h3, h4, h5⟩
  · rintro ⟨rfl, rfl, rfl, rfl, rfl⟩; rfl
theorem same_er : ∀ (N : Nat) (x y : NodeS), SizeOf.sizeOf x ≤ N → (sameB x y = true ↔ erN x = erN y) := by
  intro N
  induction N with
  | zero => intro x y hN; obtain ⟨k, t, n, a, l⟩ := x; simp only [S39.mk.sizeOf_spec] at hN; omega
  | succ N ih =>
    intro x y hN
    obtain ⟨k, t, n, a, l⟩ := x
    obtain ⟨k', t', n', a', l'⟩ := y
    have hl : ∀ (l l' : List NodeS), (∀ z ∈ l, SizeOf.sizeOf z ≤ N) → (sameL l l' = true ↔ erL l = erL l') := by
      intro l
      induction l with
      | nil => intro l' _; cases l' <;> simp [sameL, erL]
      | cons z r ihr =>
        intro l' hz
        cases l' with
        | nil => simp [sameL, erL]
        | cons u s =>
          rw [sameL, Bool.and_eq_true, ih z u (hz z (by simp)), ihr s (fun v hv => hz v (by simp [hv])), erL, erL]
          simp
    rw [sameB, erN, erN, node_ext, ← hl l l' (fun z hz => by have := size_in ⟨k, t, n, a, l⟩ z hz; omega)]
    by_cases h1 : k = k'
    · rw [if_pos h1]
      by_cases h2 : t.toList = t'.toList
      · rw [if_pos h2]
        have h2' : t = t' := by rw [toList_bl, toList_bl] at h2; exact eq_of_bl h2
        by_cases h3 : n = n'
        · rw [if_pos h3]; simp [h1, h2', h3]
        · rw [if_neg h3]; simp [h3]
      · rw [if_neg h2]
        have h2' : ¬ t = t' := fun h => h2 (by rw [h])
        simp [h2']
    · rw [if_neg h1]; simp [h1]
theorem same_iff (x y : NodeS) : sameB x y = true ↔ erN x = erN y := same_er _ x y (Nat.le_refl _)
theorem er_toks : ∀ (N : Nat) (x : NodeS), SizeOf.sizeOf x ≤ N → toksB (erN x) = toksB x ∧ textN (erN x) = textN x ∧ leafB (erN x) = leafB x ∧ hgt (erN x) = hgt x ∧ smallB (erN x) = smallB x := by
  intro N
  induction N with
  | zero => intro x hN; obtain ⟨k, t, n, a, l⟩ := x; simp only [S39.mk.sizeOf_spec] at hN; omega
  | succ N ih =>
    intro x hN
    obtain ⟨k, t, n, a, l⟩ := x
    have hl : ∀ (l : List NodeS), (∀ z ∈ l, SizeOf.sizeOf z ≤ N) → toksBL (erL l) = toksBL l ∧ textL (erL l) = textL l ∧ leafL (erL l) = leafL l ∧ hgtL (erL l) = hgtL l ∧ smallL (erL l) = smallL l ∧ (erL l).length = l.length := by
      intro l
      induction l with
      | nil => intro _; exact ⟨rfl, rfl, rfl, rfl, rfl, rfl⟩
      | cons z r ihr =>
        intro hz
        obtain ⟨h1, h2, h3, h4, h5⟩ := ih z (hz z (by simp))
        obtain ⟨g1, g2, g3, g4, g5, g6⟩ := ihr (fun v hv => hz v (by simp [hv]))
        rw [erL, toksBL, toksBL, textL, textL, leafL, leafL, hgtL, hgtL, smallL, smallL, h1, h2, h3, h4, h5, g1, g2, g3, g4, g5, List.length_cons, List.length_cons, g6]
        exact ⟨rfl, rfl, rfl, rfl, rfl, rfl⟩
    obtain ⟨g1, g2, g3, g4, g5, g6⟩ := hl l (fun z hz => by have := size_in ⟨k, t, n, a, l⟩ z hz; omega)
    rw [erN, toksB, toksB, textN, textN, leafB, leafB, hgt, hgt, smallB, smallB, g1, g2, g3, g4, g5, g6]
    exact ⟨rfl, rfl, rfl, rfl, rfl⟩
theorem er_same (x y : NodeS) (h : erN x = erN y) : toksB x = toksB y ∧ textN x = textN y ∧ leafB x = leafB y ∧ hgt x = hgt y ∧ smallB x = smallB y := by
  obtain ⟨a1, a2, a3, a4, a5⟩ := er_toks _ x (Nat.le_refl _)
  obtain ⟨b1, b2, b3, b4, b5⟩ := er_toks _ y (Nat.le_refl _)
  rw [← a1, ← a2, ← a3, ← a4, ← a5, h]
  exact ⟨b1, b2, b3, b4, b5⟩
theorem parse_eq (s : ByteArray) (hs : s.size ≤ 5000) (ts : List TokS) (h : scan 1000 0 (bl s) = .inl ts) : parseN s = parseEnd s.size (parseL ts [zN]) := by
  have ha : allF s = endL s [] (scan 1000 0 (bl s)) := Option.some.inj (all_small s hs)
  unfold parseN
  rw [ha, h]
  exact if_neg (show ¬ ((0 : Int) ≠ 0) by decide)
theorem parse_toks (s : ByteArray) (M : Nat) (ts : List TokS) (x : NodeS) (hsc : scan M 0 (bl s) = .inl ts) (hts : ts.map bareT = toksB x) (hx : leafB x = true) :
    (s.size ≤ 5000 → ts.length ≤ 1000 → hgt x ≤ 16 → ∃ x', parseN s = (x', (s.size : Int), 0) ∧ erN x' = erN x) ∧ (s.size ≤ 5000 → ts.length ≤ 1000 → 16 < hgt x → ∃ p, parseN s = (zN, p, 2)) ∧
    (5000 < s.size ∨ 1000 < ts.length → (parseN s).2.2 = 2 ∧ (parseN s).1 = zN ∧ 1000 < s.size) := by
  obtain ⟨c1, c2⟩ := scan_cut _ _ 1000 _ _ _ (Nat.le_refl _) hsc
  have hf0 : ¬ (([zN] : List NodeS).length = 1 ∧ (topN [zN]).f4.length = 1) := by rintro ⟨_, h⟩; exact absurd h (by decide)
  refine ⟨fun h1 h2 h3 => ?_, fun h1 h2 h3 => ?_, fun h => ?_⟩
  · rw [parse_eq s h1 ts (c1 h2)]
    obtain ⟨x', e1, _, e3⟩ := parse_node _ x (Nat.le_refl _) hx ts [zN] [] hts (by decide) hf0 (.inr (by simp; exact h3))
    rw [List.append_nil] at e3
    refine ⟨x', ?_, e1⟩
    rw [e3, show ([zN] : List NodeS) = [] ++ [zN] from rfl, add_snoc, parseL]
    rfl
  · rw [parse_eq s h1 ts (c1 h2)]
    obtain ⟨p, hp⟩ := deep_node _ x (Nat.le_refl _) hx ts [zN] [] hts (by decide) (by decide) hf0 (by unfold roomT; simp; omega)
    rw [List.append_nil] at hp
    exact ⟨p, by rw [hp]; rfl⟩
  · by_cases hs : 5000 < s.size
    · have he := allF_big' s hs
      have hp : parseN s = (zN, (allF s).2.1, (allF s).2.2) := by unfold parseN; exact if_pos (by omega)
      rw [hp]
      exact ⟨he, rfl, by omega⟩
    · obtain ⟨q, hq⟩ := c2 (by omega)
      have ha : allF s = endL s [] (scan 1000 0 (bl s)) := Option.some.inj (all_small s (by omega))
      have hp : parseN s = (zN, (q : Int), 2) := by
        unfold parseN
        rw [ha, hq]
        exact if_pos (show (2 : Int) ≠ 0 by decide)
      rw [hp]
      have := (scan_len _ _ _ _ _ (Nat.le_refl _) hsc).1
      rw [bl_length] at this
      exact ⟨rfl, rfl, by omega⟩
end Go.Proofs.YtngcojabofkbjaaDoor.P
namespace Go.Proofs.YtngcojabofkbjaaDoor.P
open Go.RowKit Go.Proofs.YtngcojabofkbjaaDoorW.PrintWords Go.Proofs.YtngcojabofkbjaaDoorW.PrintLast Go.Proofs.YtngcojabofkbjaaDoorW.PrintMore
set_option linter.unusedVariables false
set_option linter.unusedSimpArgs false
theorem scan_paren (M p : Nat) (r : List UInt8) (h : 0 < M) : scan M p (40 :: r) = preE [⟨3, ⟨#[40]⟩, 0, p⟩] (scan (M - 1) (p + 1) r) := by
  have h34 : ofK ((40 : UInt8).toNat : Int) = 3 := by decide
  conv => lhs; unfold scan
  rw [skip_tok 40 _ (by decide), Nat.add_zero, List.drop_zero, lx_cons, lex1_cons, h34, if_neg (by decide), if_neg (by decide), if_neg (by decide), if_neg (by decide)]
  simp only
  rw [if_neg (by omega)]
  rfl
def ListS (s : List UInt8) (xs : List NodeS) : Prop := ∀ (M : Nat) (rest : List UInt8), 1 + (toksBL xs).length ≤ M → ∃ ts, ts.map bareT = (3, [40], 0) :: toksBL xs ∧ scan M 0 (s ++ rest) = preE ts (scan (M - ts.length) s.length rest)
theorem lists_start : ListS [40] [] := by
  intro M rest h
  refine ⟨[⟨3, ⟨#[40]⟩, 0, (0 : Nat)⟩], rfl, ?_⟩
  exact scan_paren M 0 rest (by omega)
theorem bare_shift (p : Nat) (us : List TokS) : (us.map (shT p)).map bareT = us.map bareT := by
  rw [List.map_map]
  rfl
theorem lists_step (s : List UInt8) (xs : List NodeS) (a : ByteArray) (x : NodeS) (us : List TokS) (h : ListS s xs) (hp : Parsed a x us) : ListS (s ++ (bl a ++ [10])) (xs ++ [x]) := by
  obtain ⟨g1, g2, g3, g4, g5, g6, g7⟩ := hp
  intro M rest hM
  rw [toksBL_snoc, List.length_append, ← g3, List.length_map] at hM
  obtain ⟨ts, t1, t2⟩ := h M (bl a ++ 10 :: rest) (by omega)
  have htl : ts.length = 1 + (toksBL xs).length := by
    have := congrArg List.length t1
    rw [List.length_map, List.length_cons] at this
    omega
  have c1 := (scan_cut _ _ (M - ts.length) _ _ _ (Nat.le_refl _) g2).1 (by omega)
  have c2 := scan_shift s.length (M - ts.length) 0 (bl a)
  rw [c1, Nat.zero_add] at c2
  have c3 := scan_lf rest _ _ _ _ _ (Nat.le_refl _) (show scan (M - ts.length) s.length (bl a) = .inl (us.map (shT s.length)) from c2)
  refine ⟨ts ++ us.map (shT s.length), by rw [List.map_append, t1, bare_shift, g3, toksBL_snoc]; rfl, ?_⟩
  have e : s ++ (bl a ++ [10]) ++ rest = s ++ (bl a ++ 10 :: rest) := by simp
  rw [e, t2, c3, preE_two]
  simp only [List.length_append, List.length_map, List.length_cons, List.length_nil]
  congr 2 <;> omega
structure ListI (s : ByteArray) (xs : List NodeS) (j : Nat) : Prop where
  len : xs.length = j
  scan : ListS (bl s) xs
  big : s.size ≤ 1 + 201 * j
  many : 1 + (toksBL xs).length + j ≤ s.size
  leaf : ∀ x ∈ xs, leafB x = true
  small : ∀ x ∈ xs, smallB x = true
theorem list_end (s : ByteArray) (xs : List NodeS) (j : Nat) (hj : j ≤ 20) (h : ListI s xs j) (l : List ByteArray) (hl : l.length = j) (k : Nat) : trufflelaw14_SexpList.l0 (k + 1) l s j 4 ⟨#[]⟩ 0 0 xs = some true := by
  obtain ⟨ts, t1, t2⟩ := h.scan (2 + (toksBL xs).length) [41] (by omega)
  have htl : ts.length = 1 + (toksBL xs).length := by
    have := congrArg List.length t1
    rw [List.length_map, List.length_cons] at this
    omega
  have hbig := h.big
  have hmany := h.many
  have hxl := h.len
  have o := scan_one (2 + (toksBL xs).length - ts.length) (bl s).length [41] [] 3 [41] 0 1 (by decide) rfl sep_nil
  rw [List.append_nil, if_neg (by omega), scan_nil] at o
  rw [o] at t2
  simp only [preE, List.append_nil] at t2
  have hn : leafB ⟨4, ⟨#[]⟩, 0, 0, xs⟩ = true := by
    rw [leafB, if_pos rfl, (leafL_all xs).2 h.leaf, (toList_nil _).2 rfl]
    rfl
  have hs : smallB ⟨4, ⟨#[]⟩, 0, 0, xs⟩ = true := by
    rw [smallB, Bool.and_eq_true, decide_eq_true_eq, smallL_all, List.all_eq_true]
    exact ⟨by omega, h.small⟩
  have e_ : ∀ a b : ByteArray, (a ++ b).size = a.size + b.size := fun a b => ByteArray.size_append
  have hsz : (s ++ (⟨#[41]⟩ : ByteArray)).size = s.size + 1 := e_ _ _
  have hts : (ts ++ [(⟨3, ⟨#[41]⟩, 0, ((bl s).length : Int)⟩ : TokS)]).map bareT = toksB ⟨4, ⟨#[]⟩, 0, 0, xs⟩ := by
    rw [List.map_append, t1, toksB, if_pos rfl]
    rfl
  have hlt : (ts ++ [(⟨3, ⟨#[41]⟩, 0, ((bl s).length : Int)⟩ : TokS)]).length = 2 + (toksBL xs).length := by rw [List.length_append, htl, List.length_cons, List.length_nil]; omega
  have hbl : bl (s ++ (⟨#[41]⟩ : ByteArray)) = bl s ++ [41] := bl_app _ _
  obtain ⟨p1, p2, p3⟩ := parse_toks (s ++ (⟨#[41]⟩ : ByteArray)) (2 + (toksBL xs).length) _ ⟨4, ⟨#[]⟩, 0, 0, xs⟩ (by rw [hbl]; exact t2) hts hn
  rw [hlt, hsz] at p1 p2 p3
  have hm := mayF_eq ⟨4, ⟨#[]⟩, 0, 0, xs⟩ hs
  have hmt := may_top ⟨4, ⟨#[]⟩, 0, 0, xs⟩
  have c0 : ¬ ((j : Int) < (l.length : Int)) := by omega
  have c1 : s.size + 1 ≤ 9223372036854775807 := by omega
  have hw : wrap64 ((s.size : Int) + 1) = ((s.size + 1 : Nat) : Int) := (wrap_small _ (by omega) (by omega)).trans (by omega)
  simp only [trufflelaw14_SexpList.l0]
  rw [if_neg c0, if_pos c1, hw]
  unfold sexp_Parse.f
  simp only [Option.bind_some]
  clear hw
  simp only at hm
  by_cases hbigt : 1000 < 2 + (toksBL xs).length
  · obtain ⟨r1, r2, r3⟩ := p3 (.inr hbigt)
    rw [if_neg (by omega), if_pos r1, hm]
    simp only [Option.bind_some]
    split
    · rw [decide_eq_true]
      have hx1 : 1 ≤ xs.length := by
        cases xs with
        | nil => simp [toksBL] at hbigt
        | cons => simp
      omega
    · rfl
  · by_cases hh : hgt ⟨4, ⟨#[]⟩, 0, 0, xs⟩ ≤ 16
    · obtain ⟨x', e1, e2⟩ := p1 (by omega) (by omega) hh
      have hsm := sameF_eq x' ⟨4, ⟨#[]⟩, 0, 0, xs⟩ (by rw [(er_same _ _ e2).2.2.2.2]; exact hs) hs
      rw [(same_iff _ _).2 e2] at hsm
      simp only at hsm
      rw [e1]
      simp only
      rw [if_pos trivial, if_pos trivial, hsm, hm, hmt.2 ⟨hn, hh⟩]
      rfl
    · obtain ⟨p, e1⟩ := p2 (by omega) (by omega) (by omega)
      have hno : mayB ⟨4, ⟨#[]⟩, 0, 0, xs⟩ 0 = false := by
        cases hb : mayB ⟨4, ⟨#[]⟩, 0, 0, xs⟩ 0 with
        | false => rfl
        | true => exact absurd (hmt.1 hb).2 hh
      rw [e1]
      simp only
      rw [if_neg (by decide), if_pos trivial, hm, hno]
      rfl
theorem list_loop (l : List ByteArray) (hl : l.length ≤ 20) : ∀ (d j k : Nat) (s : ByteArray) (xs : List NodeS), j + d = l.length → d < k → ListI s xs j → trufflelaw14_SexpList.l0 k l s j 4 ⟨#[]⟩ 0 0 xs = some true
  | 0, j, k, s, xs, hj, hk, h => by
    obtain ⟨k, rfl⟩ : ∃ m, k = m + 1 := ⟨k - 1, by omega⟩
    exact list_end s xs j (by omega) h l (by omega) k
  | d + 1, j, k, s, xs, hj, hk, h => by
    obtain ⟨k, rfl⟩ : ∃ m, k = m + 1 := ⟨k - 1, by omega⟩
    have hlt : j < l.length := by omega
    have er : rdOf ByteArray.empty l (j : Int) = l[j] := by simp [rdOf, hlt]
    have ih := fun s' xs' => list_loop l hl d (j + 1) k s' xs' (by omega) (by omega)
    have c0 : (j : Int) < (l.length : Int) := by omega
    have c1 : (0 : Int) ≤ (j : Int) := by omega
    have hbig := h.big
    have hmany := h.many
    have hxl := h.len
    have e_ : ∀ a b : ByteArray, (a ++ b).size = a.size + b.size := fun a b => ByteArray.size_append
    generalize l[j] = a at *
    rcases parse_facts a with ⟨h1, h2, ts, h3⟩ | ⟨h1, h2, h3, h4⟩
    · by_cases hz : (a.size : Int) > 200
      · simp only [trufflelaw14_SexpList.l0]
        rw [if_pos c0, if_pos c1, er]
        unfold sexp_Parse.f
        simp only [Option.bind_some]
        rw [if_pos h1, if_pos hz]
      · have hw : wrap64 ((j : Int) + 1) = ((j + 1 : Nat) : Int) := (wrap_small _ (by omega) (by omega)).trans (by omega)
        have d1 : s.size + a.size ≤ 9223372036854775807 := by clear hw; omega
        have d2 : (s ++ a).size + 1 ≤ 9223372036854775807 := by clear hw; rw [e_]; omega
        have d3 : xs.length < 2199023255552 := by clear hw; omega
        have hsm := parsed_small _ _ _ h3
        have hlf := ((may_top _).1 h3.2.2.2.1).1
        have htl : (toksB (parseN a).1).length ≤ a.size := by
          obtain ⟨g1, g2, g3, _⟩ := h3
          have := (scan_len _ _ _ _ _ (Nat.le_refl _) g2).1
          rw [← g3, List.length_map, ← bl_length]
          exact this
        have hI : ListI ((s ++ a) ++ (⟨#[10]⟩ : ByteArray)) (xs ++ [(parseN a).1]) (j + 1) := by
          clear hw
          refine ⟨by rw [List.length_append, hxl]; rfl, ?_, ?_, ?_, ?_, ?_⟩
          · have := lists_step (bl s) xs a (parseN a).1 ts h.scan h3
            rw [bl_app, bl_app, List.append_assoc]
            exact this
          · rw [e_, e_]; show s.size + a.size + 1 ≤ _; omega
          · rw [e_, e_, toksBL_snoc, List.length_append]; show _ ≤ s.size + a.size + 1; omega
          · intro x hx
            rcases List.mem_append.1 hx with hx | hx
            · exact h.leaf x hx
            · rw [List.mem_singleton.1 hx]; exact hlf
          · intro x hx
            rcases List.mem_append.1 hx with hx | hx
            · exact h.small x hx
            · rw [List.mem_singleton.1 hx]; exact hsm
        have := ih _ _ hI
        simp only [trufflelaw14_SexpList.l0]
        rw [if_pos c0, if_pos c1, er]
        unfold sexp_Parse.f
        simp only [Option.bind_some]
        rw [if_pos h1, if_neg hz, if_pos d1, if_pos d2, if_pos d3, hw, node_eta (parseN a).1 _ rfl]
        exact this
    · simp only [trufflelaw14_SexpList.l0]
      rw [if_pos c0, if_pos c1, er]
      unfold sexp_Parse.f
      simp only [Option.bind_some]
      rw [if_neg (by omega)]
theorem SexpList (l : List ByteArray) : ∃ k, trufflelaw14_SexpList.f k l = some true := by
  refine ⟨100, ?_⟩
  unfold trufflelaw14_SexpList.f
  rw [awake14_true]
  simp only [Option.bind_some, if_true, trufflelaw14_SexpList.j0]
  by_cases hb : (l.length : Int) > 20
  · rw [if_pos (decide_eq_true hb)]
  · rw [if_neg (by rw [decide_eq_false hb]; decide)]
    exact list_loop l (by omega) l.length 0 99 ⟨#[40]⟩ [] (by omega) (by omega) ⟨rfl, lists_start, by decide, by decide, fun x hx => (by cases hx), fun x hx => (by cases hx)⟩
theorem SexpListW (l : List ByteArray) (A : Option Addr) (c : Nat) (W : World) (hC : Kd.C Kd.string W A l.length l) (hc : l.length ≤ c) (ht : True) (hG : GInv W) :
    Calls Tryd.prog 13 #[.slice A l.length c] W fun e w' => e = .returned (.bool true) ∧ Below W.heap.size W w' := by
  obtain ⟨k, h⟩ := SexpList l
  exact trufflelaw14_SexpList.calls k A c l W hG hC hc h
set_option maxRecDepth 100000 in
open Go.Deep Go.ChangeShapes Go.WideShapes in
theorem open_strsT {H : Type} {enc : TypeId × Value → H} {w : World} {sp : Nat → Bool} {hd : Bool} {r : Reach} {b0 : Nat} {v : Value} {d : DataW H} {p : List MemPlace} (hv : Value.okWide Tryd.prog w r b0 48 v) (h : DataW.Trod enc Tryd.prog w 0 sp hd 48 v d p) :
    ∃ (l : List ByteArray) (A : Option Addr) (c : Nat), v = .slice A l.length c ∧ Kd.C Kd.string w A l.length l ∧ l.length ≤ c ∧ True := by
  obtain ⟨a, len, cap, rfl⟩ := okWide_slice Tryd.underlying48 hv
  obtain ⟨fuel, hf⟩ := h
  rcases open_strings Tryd.underlying48 Tryd.underlying9 (by kernel_rfl) hf with ⟨h0, _⟩ | ⟨a, l, c, ss, h0, _, hlc, hcm, hsl, _, hcell, _⟩
  · have h1 : Value.slice a len cap = .slice none 0 0 := (List.cons.inj h0).1
    rw [h1]
    exact ⟨[], none, 0, rfl, Kd.C_nil _ _, Nat.le_refl _, trivial⟩
  · have h1 : Value.slice _ len cap = .slice (some a) l c := (List.cons.inj h0).1
    rw [h1]
    have hll : l ≤ ss.length := by rw [hsl]; split <;> omega
    have hL : (ss.take l).length = l := by rw [List.length_take]; omega
    refine ⟨ss.take l, some a, c, by rw [hL], ⟨rfl, by rw [hL]; exact Nat.le_trans hlc (Nat.le_trans hcm (by decide)), fun _ => ⟨a, rfl, fun j q hj => ⟨[.string q], rfl, rfl, fun i u hu => ?_⟩⟩⟩, by rw [hL]; exact hlc, trivial⟩
    have hjl : j < l := by have := (List.getElem?_eq_some_iff.1 hj).1; rwa [hL] at this
    have hq : ss.getD j ByteArray.empty = q := by
      rw [List.getElem?_take, if_pos hjl] at hj
      rw [List.getD_eq_getElem?_getD, hj]; rfl
    have hi : i = 0 := by have := (List.getElem?_eq_some_iff.1 hu).1; simpa using this
    subst hi
    simp only [List.getElem?_cons_zero, Option.some.injEq] at hu
    subst hu
    have := hcell j (by omega)
    rw [hq] at this
    show w.cell? (a.add (j * 1 + 0)) = _
    rw [Nat.mul_one, Nat.add_zero]
    exact this
end Go.Proofs.YtngcojabofkbjaaDoor.P
namespace Go.Proofs.YtngcojabofkbjaaDoor.laidKit
open Go.RowKit
abbrev lst : List (String × DataW Unit) := [("math/bits.deBruijn32tab", Rows.laid_math_bits_deBruijn32tab), ("math/bits.deBruijn64tab", Rows.laid_math_bits_deBruijn64tab), ("internal/strconv.uint64pow10", Rows.laid_internal_strconv_uint64pow10), ("strconv.ErrRange", Rows.laid_strconv_ErrRange), ("strconv.ErrSyntax", Rows.laid_strconv_ErrSyntax)]
theorem gPow : Tryd.prog.globalNamed "internal/strconv.uint64pow10" = some 0 := by kernel_rfl
theorem gPowT : (Tryd.prog.globals[0]?).map (·.type) = some 120 := by kernel_rfl
theorem cPow : Tryd.prog.cellsOf 120 = 20 := by kernel_rfl
theorem cU64 : Tryd.prog.cellsOf 101 = 1 := by kernel_rfl
theorem gRng : Tryd.prog.globalNamed "strconv.ErrRange" = some 2 := by kernel_rfl
theorem gRngT : (Tryd.prog.globals[2]?).map (·.type) = some 67 := by kernel_rfl
theorem gSyn : Tryd.prog.globalNamed "strconv.ErrSyntax" = some 1 := by kernel_rfl
theorem gSynT : (Tryd.prog.globals[1]?).map (·.type) = some 67 := by kernel_rfl
theorem cErr : Tryd.prog.cellsOf 132 = 1 := by kernel_rfl
theorem cStr : Tryd.prog.cellsOf 9 = 1 := by kernel_rfl
theorem star : "*" ++ "errors.errorString" = "*errors.errorString" := by decide
theorem rowErr (u : TypeId) (h : Tryd.prog.typeName? 3 u = some "*errors.errorString") : u = 130 :=
  typeName_ptr_named (nm := "errors.errorString") (by rw [star]; kernel_rfl) (by kernel_rfl) (by decide) u (by rw [star]; exact h)
theorem pow_is : (Rows.laid_internal_strconv_uint64pow10 : DataW Unit) = Lib.tabData .u64 Lib.pow10Tab := by rfl
theorem ginv {W : World} (h : laidMetH Tryd.prog lst W) : P.GInv W := by
  rw [Go.MakeChecks.laidMetH_plain _ _ _ (by kernel_rfl)] at h
  have h3 := h.tail.tail
  have hp : Lib.TabIs Tryd.prog W "internal/strconv.uint64pow10" .u64 Lib.pow10Tab :=
    Lib.tabIs_of_head gPow gPowT Tryd.underlying120 Tryd.underlying101 cU64 cPow (by rw [← pow_is]; exact h3)
  obtain ⟨a1, s1, hv1, _, _, _⟩ := laid_sentinel h3.tail gRng gRngT Tryd.underlying67 rowErr Tryd.underlying130 Tryd.underlying132 rfl rfl Tryd.underlying9 cErr cStr
  obtain ⟨a2, s2, hv2, _, _, _⟩ := laid_sentinel h3.tail.tail gSyn gSynT Tryd.underlying67 rowErr Tryd.underlying130 Tryd.underlying132 rfl rfl Tryd.underlying9 cErr cStr
  refine ⟨⟨_, _, by have h0 := World.var?_cell gSyn hv2 0; simpa using h0⟩, ⟨_, _, by have h0 := World.var?_cell gRng hv1 0; simpa using h0⟩, hp, ?_⟩
  have c0 := hp.cell gPow 0 (by decide)
  exact World.block_lt_of_cell? W _ c0
abbrev synS : ByteArray := { data := #[105, 110, 118, 97, 108, 105, 100, 32, 115, 121, 110, 116, 97, 120] }
abbrev rngS : ByteArray := { data := #[118, 97, 108, 117, 101, 32, 111, 117, 116, 32, 111, 102, 32, 114, 97, 110, 103, 101] }
def cellsOfData : DataW Unit → Array Value
  | .agg l => (l.map fun
      | .lit (.int k n) => Value.int k n
      | _ => .nilIface).toArray
  | _ => #[]
noncomputable def low : Nat := (World.holding Tryd.prog default ⟨#[], #[], []⟩).heap.size
noncomputable def laidWorld (os : Os) : World :=
  let w0 := World.holding Tryd.prog os ⟨#[.cells #[.string synS] 132, .cells #[.string rngS] 132], #[], []⟩
  { w0 with heap := ((((w0.heap.modify 0 fun
      | .cells _ t frozen => .cells (cellsOfData Rows.laid_internal_strconv_uint64pow10) t frozen
      | o => o).modify 1 fun
      | .cells _ t frozen => .cells #[.iface 130 (.pointer (some ⟨low, 0, none⟩))] t frozen
      | o => o).modify 2 fun
      | .cells _ t frozen => .cells #[.iface 130 (.pointer (some ⟨low + 1, 0, none⟩))] t frozen
      | o => o).modify 4 fun
      | .cells _ t frozen => .cells (cellsOfData Rows.laid_math_bits_deBruijn32tab) t frozen
      | o => o).modify 5 fun
      | .cells _ t frozen => .cells (cellsOfData Rows.laid_math_bits_deBruijn64tab) t frozen
      | o => o }
theorem laid_met (os : Os) (args : Array Value) : laidMet Tryd.prog lst ((laidWorld os).forCall (fun _ _ => 0) ⟨#[], args, []⟩).memory :=
  laidMet_of_run' 8 (by kernel_rfl) (by kernel_rfl)
end Go.Proofs.YtngcojabofkbjaaDoor.laidKit
