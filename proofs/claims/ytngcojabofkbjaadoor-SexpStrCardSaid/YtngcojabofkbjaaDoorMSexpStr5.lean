/- Part 5 of what the law SexpStr leans on: contracts of the functions that it reaches, and plain lemmas; printed walks and words (by the kit's print, through wip/mp.py) and the session's own texts, one behind the other, what is not used left out (wip/prune.py). -/
import Derived.Lib.Join
import Derived.Lib.ItoaMem
import Derived.Deep.DeepWitnessRowRef
import Derived.Stop.LaidErr
import Derived.Lib.LaidTab
import Derived.LaidLaws
import Derived.MakeChecks
import Derived.Test.YtngcojabofkbjaaDoorRows
import Derived.Test.YtngcojabofkbjaaDoorMSexpStr1
import Derived.Test.YtngcojabofkbjaaDoorMSexpStr2
import Derived.Test.YtngcojabofkbjaaDoorMSexpStr3
import Derived.Test.YtngcojabofkbjaaDoorMSexpStr4
namespace Go.Proofs.YtngcojabofkbjaaDoor.P
open Go.RowKit Go.Proofs.YtngcojabofkbjaaDoorW.PrintWords Go.Proofs.YtngcojabofkbjaaDoorW.PrintLast Go.Proofs.YtngcojabofkbjaaDoorW.PrintMore
set_option linter.unusedVariables false
set_option linter.unusedSimpArgs false
abbrev Bare := Int × List UInt8 × Int
def bareT (t : TokS) : Bare := (t.f0, bl t.f1, t.f2)
mutual
def toksB : NodeS → List Bare
  | ⟨k, t, n, _, l⟩ => if k = 4 then (3, [40], 0) :: (toksBL l ++ [(3, [41], 0)]) else [(k, bl t, n)]
def toksBL : List NodeS → List Bare
  | [] => []
  | x :: r => toksB x ++ toksBL r
end
mutual
def leafB : NodeS → Bool
  | ⟨k, t, n, _, l⟩ => if k = 4 then n == 0 && (t.toList == [] && leafL l) else decide (l.length = 0) && (if k = 0 ∨ k = 1 then aloneB k t n else if k = 2 then n == 0 else if k = 3 then n == 0 && t.toList == [46] else false)
def leafL : List NodeS → Bool
  | [] => true
  | x :: r => leafB x && leafL r
end
mutual
def hgt : NodeS → Nat
  | ⟨k, _, _, _, l⟩ => if k = 4 then 1 + hgtL l else 0
def hgtL : List NodeS → Nat
  | [] => 0
  | x :: r => max (hgt x) (hgtL r)
end
theorem leafL_all (l : List NodeS) : leafL l = true ↔ ∀ x ∈ l, leafB x = true := by
  induction l with
  | nil => simp [leafL]
  | cons x r ih => rw [leafL, Bool.and_eq_true, ih]; simp
theorem hgtL_le (l : List NodeS) (m : Nat) : hgtL l ≤ m ↔ ∀ x ∈ l, hgt x ≤ m := by
  induction l with
  | nil => simp [hgtL]
  | cons x r ih => rw [hgtL, Nat.max_le, ih]; simp
theorem toList_nil (t : ByteArray) : (t.toList == []) = true ↔ bl t = [] := by rw [beq_iff_eq, toList_bl]
theorem may_iff : ∀ (N : Nat) (x : NodeS) (d : Nat), SizeOf.sizeOf x ≤ N → d ≤ 16 → (mayB x (d : Int) = true ↔ leafB x = true ∧ (hgt x = 0 ∨ d + hgt x ≤ 16)) := by
  intro N
  induction N with
  | zero => intro x d hN hd; obtain ⟨k, t, n, a, l⟩ := x; simp only [S39.mk.sizeOf_spec] at hN; omega
  | succ N ih =>
    intro x d hN hd
    obtain ⟨k, t, n, a, l⟩ := x
    by_cases h4 : k = 4
    · subst h4
      rw [mayB, leafB, hgt, if_neg (by decide), if_neg (by decide), if_neg (by decide), if_pos rfl, if_pos rfl, if_pos rfl]
      simp only [Bool.and_eq_true, decide_eq_true_eq]
      rw [leafL_all, mayL_all, List.all_eq_true]
      by_cases h16 : d < 16
      · have hw : wrap64 ((d : Int) + 1) = ((d + 1 : Nat) : Int) := by rw [wrap_small _ (by omega) (by omega)]; omega
        rw [hw]
        have hm : ∀ y ∈ l, (mayB y ((d + 1 : Nat) : Int) = true ↔ leafB y = true ∧ (hgt y = 0 ∨ d + 1 + hgt y ≤ 16)) := fun y hy => ih y (d + 1) (by have := size_in ⟨4, t, n, a, l⟩ y hy; omega) (by omega)
        have hh := hgtL_le l (16 - (d + 1))
        constructor
        · rintro ⟨h1, h2, h3, h5⟩
          refine ⟨⟨h2, h3, fun y hy => ((hm y hy).1 (h1 y hy)).1⟩, .inr ?_⟩
          have := hh.2 (fun y hy => by rcases ((hm y hy).1 (h1 y hy)).2 with h6 | h6 <;> omega)
          omega
        · rintro ⟨⟨h2, h3, h1⟩, h5⟩
          refine ⟨fun y hy => (hm y hy).2 ⟨h1 y hy, ?_⟩, h2, h3, by omega⟩
          have := hh.1 (by omega) y hy
          omega
      · constructor
        · rintro ⟨h1, h2, h3, h5⟩; omega
        · rintro ⟨_, h5⟩; omega
    · rw [mayB, leafB, hgt, if_neg h4, if_neg h4, if_neg h4]
      by_cases h01 : k = 0 ∨ k = 1
      · rw [if_pos h01, if_pos h01]; simp
      · rw [if_neg h01, if_neg h01]
        by_cases h2 : k = 2
        · rw [if_pos h2, if_pos h2]; simp
        · rw [if_neg h2, if_neg h2]
          by_cases h3 : k = 3
          · rw [if_pos h3, if_pos h3]; simp
          · rw [if_neg h3, if_neg h3]; simp
theorem may_top (x : NodeS) : mayB x 0 = true ↔ leafB x = true ∧ hgt x ≤ 16 := by
  rw [show (0 : Int) = ((0 : Nat) : Int) from rfl, may_iff _ x 0 (Nat.le_refl _) (by omega)]
  constructor
  · rintro ⟨h1, h2⟩; exact ⟨h1, by omega⟩
  · rintro ⟨h1, h2⟩; exact ⟨h1, by omega⟩
theorem allF_big' (s : ByteArray) (h : 5000 < s.size) : (allF s).2.2 = 2 := by
  unfold allF
  rw [if_pos (by omega)]
theorem alone_iff (k : Int) (t : ByteArray) (n : Int) : aloneB k t n = true ↔ (t.size ≤ 5000 ∧ scan 1000 0 (bl t) = .inl [⟨k, t, n, 0⟩]) := by
  unfold aloneB sexp_alone.f
  by_cases hs : t.size ≤ 5000
  · rw [all_small t hs]
    cases hx : scan 1000 0 (bl t) with
    | inr e =>
      obtain ⟨p, e⟩ := e
      have := scan_err _ _ _ _ _ _ (Nat.le_refl _) hx
      simp only [Option.bind_some, endL]
      rw [if_neg (by omega)]
      simp
    | inl ts =>
      simp only [Option.bind_some, endL, List.nil_append]
      rw [if_pos trivial]
      match ts with
      | [] => simp
      | [u] =>
        rw [if_pos (by simp), if_pos (by simp)]
        simp only [rd_T29, Int.toNat_zero, List.getD_cons_zero, Option.getD_some, Bool.and_eq_true, beq_iff_eq, toList_bl, hs, true_and, Sum.inl.injEq, List.cons.injEq, and_true]
        obtain ⟨f0, f1, f2, f3⟩ := u
        simp only [S29.mk.injEq]
        constructor
        · rintro ⟨h1, h2, h3, h4⟩; exact ⟨h1, eq_of_bl h2, h3, h4⟩
        · rintro ⟨h1, h2, h3, h4⟩; exact ⟨h1, by rw [h2], h3, h4⟩
      | u :: v :: r => rw [if_neg (by simp; omega)]; simp
  · have hb := allF_big' t (by omega)
    unfold token_All.f
    simp only [Option.bind_some]
    rw [if_neg (by rw [hb]; decide)]
    simp [hs]
theorem alone_self (k : Int) (t : ByteArray) (n : Int) (hk : k = 0 ∨ k = 1) : aloneB k t n = true ↔ (t.size ≤ 5000 ∧ selfT k (bl t) n) := by
  rw [alone_iff]
  constructor
  · rintro ⟨h1, h2⟩
    refine ⟨h1, hk, ?_⟩
    rcases scan_cases _ _ _ _ h2 with h | ⟨j, kd, t', v, m, us, hx, hn, hk', hm, hs, h⟩
    · cases h
    · simp only [List.cons.injEq, S29.mk.injEq] at h
      obtain ⟨⟨rfl, h3, rfl, h5⟩, h6⟩ := h
      have hj : j = 0 := by omega
      subst hj
      rw [List.drop_zero] at hx
      have h7 : bl t = t' := by rw [h3]
      rcases lex1_tok _ _ _ _ _ hx with h8 | h8 | h8
      · rw [h7]; exact h8.1.2
      · omega
      · omega
  · rintro ⟨h1, _, h2⟩
    refine ⟨h1, ?_⟩
    have := scan_one 1000 0 (bl t) [] k (bl t) n _ h2 rfl (fun c r h => by cases h)
    rw [List.append_nil, if_neg (by decide), scan_nil] at this
    rw [this]
    simp only [preE, List.append_nil, Int.natCast_zero]
theorem lex1_quote (l : List UInt8) : lex1 (quoteL l) = some (2, l, 0, (quoteL l).length) := by
  have hs := strL_quote l [] ((l.flatMap quote1 ++ [34]).length + 1) (by
    have : l.length ≤ (l.flatMap quote1).length := by
      induction l with
      | nil => simp
      | cons c r ih =>
        have h1 : 1 ≤ (quote1 c).length := by rw [quote1_nat]; split; simp; split; simp; split <;> simp
        rw [List.flatMap_cons, List.length_append, List.length_cons]; omega
    rw [List.length_append]; omega)
  have h34 : ofK ((34 : UInt8).toNat : Int) = 2 := by decide
  unfold quoteL
  rw [lex1_cons, h34, if_neg (by decide), if_neg (by decide), if_neg (by decide), if_pos rfl, hs]
  simp
theorem lex1_leaf (k : Int) (t : ByteArray) (n a : Int) (l : List NodeS) (h4 : k ≠ 4) (h : leafB ⟨k, t, n, a, l⟩ = true) : l = [] ∧ lex1 (textN ⟨k, t, n, a, l⟩) = some (k, bl t, n, (textN ⟨k, t, n, a, l⟩).length) := by
  rw [leafB, if_neg h4, Bool.and_eq_true, decide_eq_true_eq] at h
  obtain ⟨h0, h⟩ := h
  refine ⟨List.length_eq_zero_iff.1 h0, ?_⟩
  rw [textN]
  by_cases h01 : k = 0 ∨ k = 1
  · rw [if_pos h01, alone_self k t n h01] at h
    rw [if_neg (by omega), if_neg h4]
    exact h.2.2
  · rw [if_neg h01] at h
    by_cases h2 : k = 2
    · rw [if_pos h2, beq_iff_eq] at h
      rw [if_pos h2, lex1_quote, h2, h]
    · rw [if_neg h2] at h
      by_cases h3 : k = 3
      · rw [if_pos h3, Bool.and_eq_true, beq_iff_eq, beq_iff_eq, toList_bl] at h
        rw [if_neg h2, if_neg h4, h.2, h3, h.1]
        first | done | decide
      · rw [if_neg h3] at h; cases h
theorem sep_nil : sepL [] := fun c r h => by cases h
theorem sep_cons (c : UInt8) (r : List UInt8) (h1 : nameU c = false) (h2 : numU c = false) : sepL (c :: r) := fun d s h => by injection h with h3 _; subst h3; exact ⟨h1, h2⟩
theorem preE_two (a b : List TokS) (x) : preE a (preE b x) = preE (a ++ b) x := preE_preE a b x
theorem preE_no (x) : preE [] x = x := by cases x <;> rfl
def ScanP (x : NodeS) : Prop := ∀ (M p : Nat) (rest : List UInt8), sepL rest → (toksB x).length ≤ M → ∃ ts, ts.map bareT = toksB x ∧ scan M p (textN x ++ rest) = preE ts (scan (M - (toksB x).length) (p + (textN x).length) rest)
theorem scan_tail (l : List NodeS) (ih : ∀ x ∈ l, ScanP x) : ∀ (M p : Nat) (rest : List UInt8), sepL rest → (toksBL l).length ≤ M → ∃ ts, ts.map bareT = toksBL l ∧
    scan M p (Lib.joinTail [32] (l.map textN) ++ rest) = preE ts (scan (M - (toksBL l).length) (p + (Lib.joinTail [32] (l.map textN)).length) rest) := by
  induction l with
  | nil => intro M p rest hr hM; exact ⟨[], rfl, by simp [Lib.joinTail, toksBL, preE_no]⟩
  | cons x r ihr =>
    intro M p rest hr hM
    rw [toksBL, List.length_append] at hM
    have e : Lib.joinTail [32] ((x :: r).map textN) ++ rest = 32 :: (textN x ++ (Lib.joinTail [32] (r.map textN) ++ rest)) := by simp [Lib.joinTail]
    have el : (Lib.joinTail [32] ((x :: r).map textN)).length = 1 + (textN x).length + (Lib.joinTail [32] (r.map textN)).length := by simp [Lib.joinTail]; omega
    have hsep : sepL (Lib.joinTail [32] (r.map textN) ++ rest) := by
      cases r with
      | nil => simpa [Lib.joinTail] using hr
      | cons y s => simp only [Lib.joinTail, List.map_cons, List.flatten_cons, List.cons_append, List.nil_append]; exact sep_cons _ _ (by decide) (by decide)
    rw [e, scan_blank _ _ _ _ (by decide)]
    obtain ⟨ts1, h1, h2⟩ := ih x (by simp) M (p + 1) _ hsep (by omega)
    obtain ⟨ts2, h3, h4⟩ := ihr (fun y hy => ih y (by simp [hy])) (M - (toksB x).length) (p + 1 + (textN x).length) rest hr (by omega)
    refine ⟨ts1 ++ ts2, by rw [List.map_append, h1, h3, toksBL], ?_⟩
    rw [h2, h4, preE_two, toksBL, List.length_append, el]
    congr 2 <;> omega
theorem scan_text : ∀ (N : Nat) (x : NodeS), SizeOf.sizeOf x ≤ N → leafB x = true → ScanP x := by
  intro N
  induction N with
  | zero => intro x hN; obtain ⟨k, t, n, a, l⟩ := x; simp only [S39.mk.sizeOf_spec] at hN; omega
  | succ N ih =>
    intro x hN hx
    obtain ⟨k, t, n, a, l⟩ := x
    by_cases h4 : k = 4
    · subst h4
      intro M p rest hr hM
      rw [leafB, if_pos rfl, Bool.and_eq_true, Bool.and_eq_true, leafL_all] at hx
      obtain ⟨_, _, hl⟩ := hx
      have ihl : ∀ y ∈ l, ScanP y := fun y hy => ih y (by have := size_in ⟨4, t, n, a, l⟩ y hy; omega) (hl y hy)
      rw [toksB, if_pos rfl] at hM ⊢
      simp only [List.length_cons, List.length_append, List.length_nil] at hM
      rw [textN, if_neg (by decide), if_pos rfl, textL_map]
      have o1 : lex1 [40] = some (3, [40], 0, 1) := by decide
      have o2 : lex1 [41] = some (3, [41], 0, 1) := by decide
      have hj : ∃ ts, ts.map bareT = toksBL l ∧ scan (M - 1) (p + 1) (Lib.join (l.map textN) [32] ++ (41 :: rest)) = preE ts (scan (M - 1 - (toksBL l).length) (p + 1 + (Lib.join (l.map textN) [32]).length) (41 :: rest)) := by
        have hsr : sepL (41 :: rest) := sep_cons _ _ (by decide) (by decide)
        cases l with
        | nil => exact ⟨[], rfl, by simp [Lib.join_nil, toksBL, preE_no]⟩
        | cons x r =>
          rw [toksBL, List.length_append] at hM ⊢
          rw [List.map_cons, Lib.join_cons]
          have hsep : sepL (Lib.joinTail [32] (r.map textN) ++ (41 :: rest)) := by
            cases r with
            | nil => simpa [Lib.joinTail] using hsr
            | cons y s => simp only [Lib.joinTail, List.map_cons, List.flatten_cons, List.cons_append, List.nil_append]; exact sep_cons _ _ (by decide) (by decide)
          obtain ⟨ts1, h1, h2⟩ := ihl x (by simp) (M - 1) (p + 1) _ hsep (by omega)
          obtain ⟨ts2, h3, h4⟩ := scan_tail r (fun y hy => ihl y (by simp [hy])) (M - 1 - (toksB x).length) (p + 1 + (textN x).length) (41 :: rest) hsr (by omega)
          refine ⟨ts1 ++ ts2, by rw [List.map_append, h1, h3], ?_⟩
          rw [List.append_assoc, h2, h4, preE_two, List.length_append]
          congr 2 <;> omega
      obtain ⟨ts, h1, h2⟩ := hj
      have e : (40 :: (Lib.join (l.map textN) [32] ++ [41])) ++ rest = [40] ++ (Lib.join (l.map textN) [32] ++ (41 :: rest)) := by simp
      have hs40 : scan M p ([40] ++ (Lib.join (l.map textN) [32] ++ (41 :: rest))) = preE [⟨3, ⟨#[40]⟩, 0, p⟩] (scan (M - 1) (p + 1) (Lib.join (l.map textN) [32] ++ (41 :: rest))) := by
        have h34 : ofK ((40 : UInt8).toNat : Int) = 3 := by decide
        show scan M p (40 :: (Lib.join (l.map textN) [32] ++ (41 :: rest))) = _
        conv => lhs; unfold scan
        rw [skip_tok 40 _ (by decide), Nat.add_zero, List.drop_zero, lx_cons, lex1_cons, h34, if_neg (by decide), if_neg (by decide), if_neg (by decide), if_neg (by decide)]
        simp only
        rw [if_neg (by omega)]
        rfl
      have hs41 : scan (M - 1 - (toksBL l).length) (p + 1 + (Lib.join (l.map textN) [32]).length) (41 :: rest) = preE [⟨3, ⟨#[41]⟩, 0, ((p + 1 + (Lib.join (l.map textN) [32]).length : Nat) : Int)⟩] (scan (M - 1 - (toksBL l).length - 1) (p + 1 + (Lib.join (l.map textN) [32]).length + 1) rest) := by
        have := scan_one (M - 1 - (toksBL l).length) (p + 1 + (Lib.join (l.map textN) [32]).length) [41] rest 3 [41] 0 1 o2 rfl hr
        rw [if_neg (by omega)] at this
        exact this
      refine ⟨⟨3, ⟨#[40]⟩, 0, p⟩ :: (ts ++ [⟨3, ⟨#[41]⟩, 0, ((p + 1 + (Lib.join (l.map textN) [32]).length : Nat) : Int)⟩]), by rw [List.map_cons, List.map_append, h1]; rfl, ?_⟩
      rw [e, hs40, h2, hs41, preE_two, preE_two]
      simp only [List.length_cons, List.length_append, List.length_nil]
      congr 2 <;> omega
    · intro M p rest hr hM
      obtain ⟨rfl, h⟩ := lex1_leaf k t n a l h4 hx
      rw [toksB, if_neg h4] at hM ⊢
      simp only [List.length_cons, List.length_nil] at hM ⊢
      refine ⟨[⟨k, t, n, p⟩], rfl, ?_⟩
      rw [scan_one M p _ rest k (bl t) n _ h rfl hr, if_neg (by omega), mk_bl]
end Go.Proofs.YtngcojabofkbjaaDoor.P
namespace Go.Proofs.YtngcojabofkbjaaDoor.P
open Go.RowKit Go.Proofs.YtngcojabofkbjaaDoorW.PrintWords Go.Proofs.YtngcojabofkbjaaDoorW.PrintLast Go.Proofs.YtngcojabofkbjaaDoorW.PrintMore
set_option linter.unusedVariables false
set_option linter.unusedSimpArgs false
mutual
/-- A node without where it begins. -/
def erN : NodeS → NodeS
  | ⟨k, t, n, _, l⟩ => ⟨k, t, n, 0, erL l⟩
def erL : List NodeS → List NodeS
  | [] => []
  | x :: r => erN x :: erL r
end
theorem doesI_bare (t : TokS) : doesI t = if t.f0 ≠ 3 ∨ bl t.f1 = [46] then 0 else if bl t.f1 = [40] then 1 else if bl t.f1 = [41] then 2 else 3 := by
  unfold doesI
  rw [toList_bl]
theorem does_open (t : TokS) (h : bareT t = (3, [40], 0)) : doesI t = 1 := by
  simp only [bareT, Prod.mk.injEq] at h
  rw [doesI_bare, h.1, h.2.1, if_neg (by decide), if_pos rfl]
theorem does_shut (t : TokS) (h : bareT t = (3, [41], 0)) : doesI t = 2 := by
  simp only [bareT, Prod.mk.injEq] at h
  rw [doesI_bare, h.1, h.2.1, if_neg (by decide), if_neg (by decide), if_pos rfl]
theorem bare_leaf (t : TokS) (k : Int) (s : ByteArray) (n : Int) (h : bareT t = (k, bl s, n)) : t.f0 = k ∧ t.f1 = s ∧ t.f2 = n := by
  simp only [bareT, Prod.mk.injEq] at h
  exact ⟨h.1, eq_of_bl h.2.1, h.2.2⟩
theorem does_leaf (t : TokS) (k : Int) (s : ByteArray) (n : Int) (a : Int) (l : List NodeS) (h4 : k ≠ 4) (hx : leafB ⟨k, s, n, a, l⟩ = true) (h : bareT t = (k, bl s, n)) : doesI t = 0 := by
  obtain ⟨h1, h2, h3⟩ := bare_leaf t k s n h
  rw [doesI_bare, h1, h2]
  rw [leafB, if_neg h4, Bool.and_eq_true] at hx
  by_cases hk : k = 3
  · subst hk
    have := hx.2
    rw [if_neg (by decide), if_neg (by decide), if_pos rfl, Bool.and_eq_true, beq_iff_eq, beq_iff_eq, toList_bl] at this
    rw [if_pos (.inr this.2)]
  · rw [if_pos (.inl hk)]
theorem top_snoc (st : List NodeS) (n : NodeS) : topN (st ++ [n]) = n := by
  unfold topN
  simp
theorem add_snoc (st : List NodeS) (n x : NodeS) : addTop (st ++ [n]) x = st ++ [⟨n.f0, n.f1, n.f2, n.f3, n.f4 ++ [x]⟩] := by
  unfold addTop
  rw [top_snoc]
  simp
def roomT (st : List NodeS) (h : Nat) : Prop := h = 0 ∨ st.length - 1 + h ≤ 16
theorem not_full (st : List NodeS) (n : NodeS) (h : 0 < st.length) : ¬ ((st ++ [n]).length = 1 ∧ (topN (st ++ [n])).f4.length = 1) := by
  rintro ⟨h1, _⟩
  rw [List.length_append, List.length_cons, List.length_nil] at h1
  omega
theorem room_snoc (st : List NodeS) (n : NodeS) (h : Nat) : roomT (st ++ [n]) h ↔ (h = 0 ∨ st.length + h ≤ 16) := by
  unfold roomT
  rw [List.length_append, List.length_cons, List.length_nil, Nat.zero_add, Nat.add_sub_cancel]
def firstAt (ts : List TokS) : Int := match ts with
  | [] => 0
  | t :: _ => t.f3
def ParseP (x : NodeS) : Prop := ∀ (ts : List TokS) (st : List NodeS) (rest : List TokS), ts.map bareT = toksB x → 0 < st.length → ¬ (st.length = 1 ∧ (topN st).f4.length = 1) → roomT st (hgt x) →
  ∃ x', erN x' = erN x ∧ x'.f3 = firstAt ts ∧ parseL (ts ++ rest) st = parseL rest (addTop st x')
theorem node_eta (n : NodeS) (l : List NodeS) (h : n.f4 = l) : (⟨n.f0, n.f1, n.f2, n.f3, l⟩ : NodeS) = n := by
  obtain ⟨a, b, c, d, e⟩ := n
  simp only at h
  rw [h]
theorem parse_list (l : List NodeS) (ih : ∀ x ∈ l, ParseP x) : ∀ (ts : List TokS) (st : List NodeS) (n : NodeS) (rest : List TokS), ts.map bareT = toksBL l → 0 < st.length → (∀ x ∈ l, hgt x = 0 ∨ st.length + hgt x ≤ 16) →
    ∃ xs, erL xs = erL l ∧ parseL (ts ++ rest) (st ++ [n]) = parseL rest (st ++ [⟨n.f0, n.f1, n.f2, n.f3, n.f4 ++ xs⟩]) := by
  induction l with
  | nil =>
    intro ts st n rest h hs hr
    rw [toksBL, List.map_eq_nil_iff] at h
    subst h
    refine ⟨[], rfl, ?_⟩
    rw [List.append_nil, node_eta n _ rfl]; rfl
  | cons x r ihr =>
    intro ts st n rest h hs hr
    rw [toksBL, List.map_eq_append_iff] at h
    obtain ⟨t1, t2, rfl, h1, h2⟩ := h
    obtain ⟨x', e1, _, e2⟩ := ih x (by simp) t1 (st ++ [n]) (t2 ++ rest) h1 (by simp) (not_full st n hs) ((room_snoc _ _ _).2 (hr x (by simp)))
    rw [add_snoc] at e2
    obtain ⟨xs, e3, e4⟩ := ihr (fun y hy => ih y (by simp [hy])) t2 st ⟨n.f0, n.f1, n.f2, n.f3, n.f4 ++ [x']⟩ rest h2 hs (fun y hy => hr y (by simp [hy]))
    refine ⟨x' :: xs, by rw [erL, erL, e1, e3], ?_⟩
    rw [List.append_assoc, e2, e4]
    simp
theorem parse_open (t : TokS) (ts : List TokS) (st : List NodeS) (h : doesI t = 1) (hf : ¬ (st.length = 1 ∧ (topN st).f4.length = 1)) : parseL (t :: ts) st = if st.length > 16 then .inr (t.f3, 2) else parseL ts (st ++ [⟨4, ⟨#[]⟩, 0, t.f3, []⟩]) := by
  rw [parseL, if_neg hf, h, if_neg (by decide), if_neg (by omega)]
  by_cases hl : st.length > 16
  · rw [if_pos ⟨rfl, hl⟩, if_pos hl]
  · rw [if_neg (fun h2 => hl h2.2), if_pos rfl, if_neg hl]
theorem parse_shut (t : TokS) (ts : List TokS) (st : List NodeS) (n : NodeS) (h : doesI t = 2) (hs : 0 < st.length) : parseL (t :: ts) (st ++ [n]) = parseL ts (addTop st n) := by
  rw [parseL, if_neg (not_full st n hs), h, if_neg (by decide), if_neg (by rintro ⟨_, h1⟩; rw [List.length_append, List.length_cons, List.length_nil] at h1; omega), if_neg (by omega), if_neg (by omega), if_pos rfl, top_snoc]
  simp
theorem parse_atom (t : TokS) (ts : List TokS) (st : List NodeS) (h : doesI t = 0) (hf : ¬ (st.length = 1 ∧ (topN st).f4.length = 1)) : parseL (t :: ts) st = parseL ts (addTop st ⟨t.f0, t.f1, t.f2, t.f3, []⟩) := by
  rw [parseL, if_neg hf, h, if_neg (by decide), if_neg (by omega), if_neg (by omega), if_neg (by decide), if_neg (by decide)]
theorem parse_node : ∀ (N : Nat) (x : NodeS), SizeOf.sizeOf x ≤ N → leafB x = true → ParseP x := by
  intro N
  induction N with
  | zero => intro x hN; obtain ⟨k, t, n, a, l⟩ := x; simp only [S39.mk.sizeOf_spec] at hN; omega
  | succ N ih =>
    intro x hN hx ts st rest hts hs hf hr
    obtain ⟨k, t, n, a, l⟩ := x
    by_cases h4 : k = 4
    · subst h4
      have hx2 := hx
      rw [leafB, if_pos rfl, Bool.and_eq_true, Bool.and_eq_true, leafL_all, beq_iff_eq, toList_nil] at hx2
      obtain ⟨hn, ht, hl⟩ := hx2
      rw [toksB, if_pos rfl] at hts
      obtain ⟨t0, ts1, rfl, h0, h1⟩ := List.map_eq_cons_iff.1 hts
      obtain ⟨tl, ts2, rfl, h2, h3⟩ := List.map_eq_append_iff.1 h1
      obtain ⟨t1, ts3, rfl, h5, h6⟩ := List.map_eq_cons_iff.1 h3
      rw [List.map_eq_nil_iff] at h6
      subst h6
      rw [hgt, if_pos rfl] at hr
      have hr2 : st.length - 1 + (1 + hgtL l) ≤ 16 := by rcases hr with h | h; omega; exact h
      have hh := (hgtL_le l (16 - st.length)).1 (by omega)
      obtain ⟨xs, e1, e2⟩ := parse_list l (fun y hy => ih y (by have := size_in ⟨4, t, n, a, l⟩ y hy; omega) (hl y hy)) tl st ⟨4, ⟨#[]⟩, 0, t0.f3, []⟩ ([t1] ++ rest) h2 hs (fun y hy => .inr (by have := hh y hy; omega))
      refine ⟨⟨4, ⟨#[]⟩, 0, t0.f3, xs⟩, ?_, rfl, ?_⟩
      · rw [erN, erN, e1, hn, eq_of_bl (a := t) (b := ⟨#[]⟩) ht]
      · rw [List.cons_append, parse_open t0 _ st (does_open t0 h0) hf, if_neg (by omega), List.append_assoc, e2]
        simp only [List.nil_append, List.cons_append]
        exact parse_shut t1 rest st _ (does_shut t1 h5) hs
    · rw [toksB, if_neg h4] at hts
      obtain ⟨t0, ts1, rfl, h0, h1⟩ := List.map_eq_cons_iff.1 hts
      rw [List.map_eq_nil_iff] at h1
      subst h1
      obtain ⟨rfl, _⟩ := lex1_leaf k t n a l h4 hx
      obtain ⟨q1, q2, q3⟩ := bare_leaf t0 k t n h0
      refine ⟨⟨t0.f0, t0.f1, t0.f2, t0.f3, []⟩, by rw [erN, erN, q1, q2, q3], rfl, ?_⟩
      exact parse_atom t0 rest st (does_leaf t0 k t n a [] h4 hx h0) hf
def DeepP (x : NodeS) : Prop := ∀ (ts : List TokS) (st : List NodeS) (rest : List TokS), ts.map bareT = toksB x → 0 < st.length → st.length ≤ 17 → ¬ (st.length = 1 ∧ (topN st).f4.length = 1) → ¬ roomT st (hgt x) → ∃ p, parseL (ts ++ rest) st = .inr (p, 2)
theorem deep_list (l : List NodeS) (ih : ∀ x ∈ l, DeepP x) (hl : ∀ x ∈ l, leafB x = true) : ∀ (ts : List TokS) (st : List NodeS) (n : NodeS) (rest : List TokS), ts.map bareT = toksBL l → 0 < st.length → st.length ≤ 16 → (∃ x ∈ l, ¬ (hgt x = 0 ∨ st.length + hgt x ≤ 16)) →
    ∃ p, parseL (ts ++ rest) (st ++ [n]) = .inr (p, 2) := by
  induction l with
  | nil => intro ts st n rest h hs hr hd; obtain ⟨x, hx, _⟩ := hd; cases hx
  | cons x r ihr =>
    intro ts st n rest h hs hr hd
    rw [toksBL, List.map_eq_append_iff] at h
    obtain ⟨t1, t2, rfl, h1, h2⟩ := h
    rw [List.append_assoc]
    by_cases hx : hgt x = 0 ∨ st.length + hgt x ≤ 16
    · obtain ⟨x', e1, _, e2⟩ := parse_node _ x (Nat.le_refl _) (hl x (by simp)) t1 (st ++ [n]) (t2 ++ rest) h1 (by simp) (not_full st n hs) ((room_snoc _ _ _).2 hx)
      rw [e2, add_snoc]
      refine ihr (fun y hy => ih y (by simp [hy])) (fun y hy => hl y (by simp [hy])) t2 st _ rest h2 hs hr ?_
      obtain ⟨y, hy, hd⟩ := hd
      rcases List.mem_cons.1 hy with rfl | hy
      · exact absurd hx hd
      · exact ⟨y, hy, hd⟩
    · exact ih x (by simp) t1 (st ++ [n]) (t2 ++ rest) h1 (by simp) (by simp; omega) (not_full st n hs) (fun h9 => hx ((room_snoc _ _ _).1 h9))
theorem deep_node : ∀ (N : Nat) (x : NodeS), SizeOf.sizeOf x ≤ N → leafB x = true → DeepP x := by
  intro N
  induction N with
  | zero => intro x hN; obtain ⟨k, t, n, a, l⟩ := x; simp only [S39.mk.sizeOf_spec] at hN; omega
  | succ N ih =>
    intro x hN hx ts st rest hts hs hs2 hf hr
    obtain ⟨k, t, n, a, l⟩ := x
    by_cases h4 : k = 4
    · subst h4
      rw [leafB, if_pos rfl, Bool.and_eq_true, Bool.and_eq_true, leafL_all, beq_iff_eq, toList_nil] at hx
      obtain ⟨hn, ht, hl⟩ := hx
      rw [toksB, if_pos rfl] at hts
      obtain ⟨t0, ts1, rfl, h0, h1⟩ := List.map_eq_cons_iff.1 hts
      obtain ⟨tl, ts2, rfl, h2, h3⟩ := List.map_eq_append_iff.1 h1
      rw [hgt, if_pos rfl] at hr
      unfold roomT at hr
      rw [List.cons_append, parse_open t0 _ st (does_open t0 h0) hf]
      by_cases hl16 : st.length > 16
      · rw [if_pos hl16]; exact ⟨_, rfl⟩
      · rw [if_neg hl16, List.append_assoc]
        refine deep_list l (fun y hy => ih y (by have := size_in ⟨4, t, n, a, l⟩ y hy; omega) (hl y hy)) hl tl st _ _ h2 hs (by omega) ?_
        by_cases hall : ∀ y ∈ l, hgt y ≤ 16 - st.length
        · have h7 := (hgtL_le l (16 - st.length)).2 hall; exfalso; apply hr; right; omega
        · simp only [Classical.not_forall] at hall
          obtain ⟨y, hy, hd⟩ := hall
          exact ⟨y, hy, by omega⟩
    · rw [hgt, if_neg h4] at hr
      exact absurd (.inl rfl) hr
end Go.Proofs.YtngcojabofkbjaaDoor.P
namespace Go.Proofs.YtngcojabofkbjaaDoor.P
open Go.RowKit Go.Proofs.YtngcojabofkbjaaDoorW.PrintWords Go.Proofs.YtngcojabofkbjaaDoorW.PrintLast Go.Proofs.YtngcojabofkbjaaDoorW.PrintMore
set_option linter.unusedVariables false
set_option linter.unusedSimpArgs false
theorem mayF_eq (x : NodeS) (h : smallB x = true) : sexp_May.f x.f0 x.f1 x.f2 x.f3 x.f4 = some (mayB x 0) := by
  unfold sexp_May.f sexp_may.f
  rw [node_eta x _ rfl, if_pos h]
  rfl
theorem printF_eq (x : NodeS) (h : smallB x = true) (hl : (textN x).length ≤ 1000000000000) : sexp_Print.f x.f0 x.f1 x.f2 x.f3 x.f4 = some (if mayB x 0 = true then textS x else ⟨#[]⟩) := by
  unfold sexp_Print.f
  rw [mayF_eq x h]
  simp only [Option.bind_some]
  by_cases hm : mayB x 0 = true
  · rw [if_pos hm, if_pos hm]
    unfold sexp_text.f
    rw [node_eta x _ rfl, if_pos hl]
    rfl
  · rw [if_neg hm, if_neg hm]
theorem sameF_eq (x y : NodeS) (h : smallB x = true) (h2 : smallB y = true) : sexp_Same.f x.f0 x.f1 x.f2 x.f3 x.f4 y.f0 y.f1 y.f2 y.f3 y.f4 = some (sameB x y) := by
  unfold sexp_Same.f
  rw [node_eta x _ rfl, node_eta y _ rfl, if_pos ⟨h, h2⟩]
theorem itoa_5 : Lib.itoa 5 = [53] := by
  rw [show (5 : Int) = ((5 : Nat) : Int) from rfl, Lib.itoa_nonneg 5, Lib.decDigits_one (by omega)]
  decide
theorem parse_5 : Lib.parseIntB 64 [53] = .ok 5 := by decide
theorem numOk_5 : numOk [53] = true := by
  unfold numOk
  rw [parse_5]
  simp only [itoa_5, decide_true]
theorem numV_5 : numV [53] = 5 := by unfold numV; rw [parse_5]
theorem lex_5 (r : List UInt8) (hr : sepL r) : lex1 (53 :: r) = some (1, [53], 5, 1) := by
  have h : lex1 [53] = some (1, [53], 5, 1) := by
    rw [lex1_cons, if_neg (by decide), if_neg (by decide), if_pos (by decide)]
    have e : List.take (runN numU [53]) ([53] : List UInt8) = [53] := by decide
    have e2 : runN numU [53] = 1 := by decide
    rw [e, numOk_5, numV_5, if_pos rfl, e2]
  exact lex1_sep [53] r hr _ h
def exN : NodeS := ⟨4, ⟨#[]⟩, 0, 0, [⟨0, ⟨#[101, 113]⟩, 0, 1, []⟩, ⟨0, ⟨#[97]⟩, 0, 4, []⟩, ⟨1, ⟨#[53]⟩, 5, 6, []⟩]⟩
theorem allF_ex14 : allF ⟨#[40, 101, 113, 32, 97, 32, 53, 41]⟩ = ([⟨3, ⟨#[40]⟩, 0, 0⟩, ⟨0, ⟨#[101, 113]⟩, 0, 1⟩, ⟨0, ⟨#[97]⟩, 0, 4⟩, ⟨1, ⟨#[53]⟩, 5, 6⟩, ⟨3, ⟨#[41]⟩, 0, 7⟩], 8, 0) := by
  have e1 : lex1 [40, 101, 113, 32, 97, 32, 53, 41] = some (3, [40], 0, 1) := by decide
  have e2 : lex1 [101, 113, 32, 97, 32, 53, 41] = some (0, [101, 113], 0, 2) := by decide
  have e3 : lex1 [97, 32, 53, 41] = some (0, [97], 0, 1) := by decide
  have e4 : lex1 [53, 41] = some (1, [53], 5, 1) := lex_5 [41] (sep_cons _ _ (by decide) (by decide))
  have e5 : lex1 [41] = some (3, [41], 0, 1) := by decide
  have s0 : skipN false [40, 101, 113, 32, 97, 32, 53, 41] = 0 := by decide
  have s1 : skipN false [101, 113, 32, 97, 32, 53, 41] = 0 := by decide
  have s2 : skipN false [32, 97, 32, 53, 41] = 1 := by decide
  have s3 : skipN false [32, 53, 41] = 1 := by decide
  have s4 : skipN false [41] = 0 := by decide
  have s5 : skipN false [] = 0 := by decide
  have b : bl ⟨#[40, 101, 113, 32, 97, 32, 53, 41]⟩ = [40, 101, 113, 32, 97, 32, 53, 41] := rfl
  have z : (⟨#[40, 101, 113, 32, 97, 32, 53, 41]⟩ : ByteArray).size = 8 := rfl
  unfold allF allL
  rw [z, if_neg (by omega), b, s0]
  simp only [List.length_cons, List.length_nil, List.drop_zero, lexL, e1, e2, e3, e4, e5, s1, s2, s3, s4, s5, List.drop_succ_cons, List.drop_nil, endL, List.nil_append, z]
  rfl
theorem parse_ex14 : parseN ⟨#[40, 101, 113, 32, 97, 32, 53, 41]⟩ = (exN, 8, 0) := by
  unfold parseN
  rw [allF_ex14]
  have d1 : doesI ⟨3, ⟨#[40]⟩, 0, 0⟩ = 1 := does_open _ rfl
  have d2 : doesI ⟨0, ⟨#[101, 113]⟩, 0, 1⟩ = 0 := by rw [doesI_bare]; rfl
  have d3 : doesI ⟨0, ⟨#[97]⟩, 0, 4⟩ = 0 := by rw [doesI_bare]; rfl
  have d4 : doesI ⟨1, ⟨#[53]⟩, 5, 6⟩ = 0 := by rw [doesI_bare]; rfl
  have d5 : doesI ⟨3, ⟨#[41]⟩, 0, 7⟩ = 2 := does_shut _ rfl
  rw [if_neg (by decide)]
  simp only [parseL, d1, d2, d3, d4, d5]
  rfl
theorem may_ex14 : mayB exN 0 = true := by
  have h1 : aloneB 0 ⟨#[101, 113]⟩ 0 = true := (alone_self _ _ _ (.inl rfl)).2 ⟨by decide, .inl rfl, by decide⟩
  have h2 : aloneB 0 ⟨#[97]⟩ 0 = true := (alone_self _ _ _ (.inl rfl)).2 ⟨by decide, .inl rfl, by decide⟩
  have h3 : aloneB 1 ⟨#[53]⟩ 5 = true := (alone_self _ _ _ (.inr rfl)).2 ⟨by decide, .inr rfl, lex_5 [] sep_nil⟩
  have hb : ((⟨#[]⟩ : ByteArray).toList == []) = true := (toList_nil _).2 rfl
  unfold exN
  simp only [mayB, mayL, h1, h2, h3, hb]
  decide
theorem awake14_true : trufflelaw14_awake.f = some true := by
  unfold trufflelaw14_awake.f sexp_Parse.f
  rw [parse_ex14]
  have hs : smallB exN = true := by decide
  have ht : textN exN = [40, 101, 113, 32, 97, 32, 53, 41] := by decide
  simp only [Option.bind_some]
  rw [mayF_eq exN hs, printF_eq exN hs (by rw [ht]; decide), may_ex14]
  simp only [Option.bind_some, if_true, toList_bl, textS, ht]
  decide
end Go.Proofs.YtngcojabofkbjaaDoor.P
namespace Go.Proofs.YtngcojabofkbjaaDoor.P
open Go.RowKit Go.Proofs.YtngcojabofkbjaaDoorW.PrintWords Go.Proofs.YtngcojabofkbjaaDoorW.PrintLast Go.Proofs.YtngcojabofkbjaaDoorW.PrintMore
set_option linter.unusedVariables false
set_option linter.unusedSimpArgs false
theorem node_ext {k k' : Int} {t t' : ByteArray} {n n' a a' : Int} {l l' : List NodeS} : (⟨k, t, n, a, l⟩ : NodeS) = ⟨k', t', n', a', l'⟩ ↔ k = k' ∧ t = t' ∧ n = n' ∧ a = a' ∧ l = l' := by
  constructor
  · intro h; injection h with h1 h2 h3 h4 h5; exact ⟨h1, h2, h3, h4, h5⟩
  · rintro ⟨rfl, rfl, rfl, rfl, rfl⟩; rfl
theorem same_er : ∀ (N : Nat) (x y : NodeS), SizeOf.sizeOf x ≤ N → (sameB x y = true ↔ erN x = erN y) := by
  intro N
  induction N with
  | zero => intro x y hN; obtain ⟨k, t, n, a, l⟩ := x; simp only [S39.mk.sizeOf_spec] at hN; omega
  | succ N ih =>
    intro x y hN
    obtain ⟨k, t, n, a, l⟩ := x
    obtain ⟨k', t', n', a', l'⟩ := y
    have hl : ∀ (l l' : List NodeS), (∀ z ∈ l, SizeOf.sizeOf z ≤ N) → (sameL l l' = true ↔ erL l = erL l') := by
      intro l
      induction l with
      | nil => intro l' _; cases l' <;> simp [sameL, erL]
      | cons z r ihr =>
        intro l' hz
        cases l' with
        | nil => simp [sameL, erL]
        | cons u s =>
          rw [sameL, Bool.and_eq_true, ih z u (hz z (by simp)), ihr s (fun v hv => hz v (by simp [hv])), erL, erL]
          simp
    rw [sameB, erN, erN, node_ext, ← hl l l' (fun z hz => by have := size_in ⟨k, t, n, a, l⟩ z hz; omega)]
    by_cases h1 : k = k'
    · rw [if_pos h1]
      by_cases h2 : t.toList = t'.toList
      · rw [if_pos h2]
        have h2' : t = t' := by rw [toList_bl, toList_bl] at h2; exact eq_of_bl h2
        by_cases h3 : n = n'
        · rw [if_pos h3]; simp [h1, h2', h3]
        · rw [if_neg h3]; simp [h3]
      · rw [if_neg h2]
        have h2' : ¬ t = t' := fun h => h2 (by rw [h])
        simp [h2']
    · rw [if_neg h1]; simp [h1]
theorem same_iff (x y : NodeS) : sameB x y = true ↔ erN x = erN y := same_er _ x y (Nat.le_refl _)
theorem er_toks : ∀ (N : Nat) (x : NodeS), SizeOf.sizeOf x ≤ N → toksB (erN x) = toksB x ∧ textN (erN x) = textN x ∧ leafB (erN x) = leafB x ∧ hgt (erN x) = hgt x ∧ smallB (erN x) = smallB x := by
  intro N
  induction N with
  | zero => intro x hN; obtain ⟨k, t, n, a, l⟩ := x; simp only [S39.mk.sizeOf_spec] at hN; omega
  | succ N ih =>
    intro x hN
    obtain ⟨k, t, n, a, l⟩ := x
    have hl : ∀ (l : List NodeS), (∀ z ∈ l, SizeOf.sizeOf z ≤ N) → toksBL (erL l) = toksBL l ∧ textL (erL l) = textL l ∧ leafL (erL l) = leafL l ∧ hgtL (erL l) = hgtL l ∧ smallL (erL l) = smallL l ∧ (erL l).length = l.length := by
      intro l
      induction l with
      | nil => intro _; exact ⟨rfl, rfl, rfl, rfl, rfl, rfl⟩
      | cons z r ihr =>
        intro hz
        obtain ⟨h1, h2, h3, h4, h5⟩ := ih z (hz z (by simp))
        obtain ⟨g1, g2, g3, g4, g5, g6⟩ := ihr (fun v hv => hz v (by simp [hv]))
        rw [erL, toksBL, toksBL, textL, textL, leafL, leafL, hgtL, hgtL, smallL, smallL, h1, h2, h3, h4, h5, g1, g2, g3, g4, g5, List.length_cons, List.length_cons, g6]
        exact ⟨rfl, rfl, rfl, rfl, rfl, rfl⟩
    obtain ⟨g1, g2, g3, g4, g5, g6⟩ := hl l (fun z hz => by have := size_in ⟨k, t, n, a, l⟩ z hz; omega)
    rw [erN, toksB, toksB, textN, textN, leafB, leafB, hgt, hgt, smallB, smallB, g1, g2, g3, g4, g5, g6]
    exact ⟨rfl, rfl, rfl, rfl, rfl⟩
theorem er_same (x y : NodeS) (h : erN x = erN y) : toksB x = toksB y ∧ textN x = textN y ∧ leafB x = leafB y ∧ hgt x = hgt y ∧ smallB x = smallB y := by
  obtain ⟨a1, a2, a3, a4, a5⟩ := er_toks _ x (Nat.le_refl _)
  obtain ⟨b1, b2, b3, b4, b5⟩ := er_toks _ y (Nat.le_refl _)
  rw [← a1, ← a2, ← a3, ← a4, ← a5, h]
  exact ⟨b1, b2, b3, b4, b5⟩
theorem parse_eq (s : ByteArray) (hs : s.size ≤ 5000) (ts : List TokS) (h : scan 1000 0 (bl s) = .inl ts) : parseN s = parseEnd s.size (parseL ts [zN]) := by
  have ha : allF s = endL s [] (scan 1000 0 (bl s)) := Option.some.inj (all_small s hs)
  unfold parseN
  rw [ha, h]
  exact if_neg (show ¬ ((0 : Int) ≠ 0) by decide)
theorem parse_toks (s : ByteArray) (M : Nat) (ts : List TokS) (x : NodeS) (hsc : scan M 0 (bl s) = .inl ts) (hts : ts.map bareT = toksB x) (hx : leafB x = true) :
    (s.size ≤ 5000 → ts.length ≤ 1000 → hgt x ≤ 16 → ∃ x', parseN s = (x', (s.size : Int), 0) ∧ erN x' = erN x) ∧ (s.size ≤ 5000 → ts.length ≤ 1000 → 16 < hgt x → ∃ p, parseN s = (zN, p, 2)) ∧
    (5000 < s.size ∨ 1000 < ts.length → (parseN s).2.2 = 2 ∧ (parseN s).1 = zN ∧ 1000 < s.size) := by
  obtain ⟨c1, c2⟩ := scan_cut _ _ 1000 _ _ _ (Nat.le_refl _) hsc
  have hf0 : ¬ (([zN] : List NodeS).length = 1 ∧ (topN [zN]).f4.length = 1) := by rintro ⟨_, h⟩; exact absurd h (by decide)
  refine ⟨fun h1 h2 h3 => ?_, fun h1 h2 h3 => ?_, fun h => ?_⟩
  · rw [parse_eq s h1 ts (c1 h2)]
    obtain ⟨x', e1, _, e3⟩ := parse_node _ x (Nat.le_refl _) hx ts [zN] [] hts (by decide) hf0 (.inr (by simp; exact h3))
    rw [List.append_nil] at e3
    refine ⟨x', ?_, e1⟩
    rw [e3, show ([zN] : List NodeS) = [] ++ [zN] from rfl, add_snoc, parseL]
    rfl
  · rw [parse_eq s h1 ts (c1 h2)]
    obtain ⟨p, hp⟩ := deep_node _ x (Nat.le_refl _) hx ts [zN] [] hts (by decide) (by decide) hf0 (by unfold roomT; simp; omega)
    rw [List.append_nil] at hp
    exact ⟨p, by rw [hp]; rfl⟩
  · by_cases hs : 5000 < s.size
    · have he := allF_big' s hs
      have hp : parseN s = (zN, (allF s).2.1, (allF s).2.2) := by unfold parseN; exact if_pos (by omega)
      rw [hp]
      exact ⟨he, rfl, by omega⟩
    · obtain ⟨q, hq⟩ := c2 (by omega)
      have ha : allF s = endL s [] (scan 1000 0 (bl s)) := Option.some.inj (all_small s (by omega))
      have hp : parseN s = (zN, (q : Int), 2) := by
        unfold parseN
        rw [ha, hq]
        exact if_pos (show (2 : Int) ≠ 0 by decide)
      rw [hp]
      have := (scan_len _ _ _ _ _ (Nat.le_refl _) hsc).1
      rw [bl_length] at this
      exact ⟨rfl, rfl, by omega⟩
theorem textS_size (x : NodeS) : (textS x).size = (textN x).length := by rw [← bl_length]; rfl
end Go.Proofs.YtngcojabofkbjaaDoor.P
namespace Go.Proofs.YtngcojabofkbjaaDoor.P
open Go.RowKit Go.Proofs.YtngcojabofkbjaaDoorW.PrintWords Go.Proofs.YtngcojabofkbjaaDoorW.PrintLast Go.Proofs.YtngcojabofkbjaaDoorW.PrintMore
set_option linter.unusedVariables false
set_option linter.unusedSimpArgs false
def strN (a : ByteArray) : NodeS := ⟨2, a, 0, 0, []⟩
def strsN (a : ByteArray) : NodeS := ⟨4, ⟨#[]⟩, 0, 0, [strN a, strN a]⟩
theorem strN_leaf (a : ByteArray) : leafB (strN a) = true := by
  unfold strN
  rw [leafB, if_neg (by decide), if_neg (by decide), if_pos rfl]
  decide
theorem strsN_leaf (a : ByteArray) : leafB (strsN a) = true := by
  unfold strsN
  rw [leafB, if_pos rfl, leafL, leafL, leafL, strN_leaf, (toList_nil _).2 rfl]
  decide
theorem strN_hgt (a : ByteArray) : hgt (strN a) = 0 := rfl
theorem strsN_hgt (a : ByteArray) : hgt (strsN a) = 1 := rfl
theorem strN_small (a : ByteArray) : smallB (strN a) = true := by
  unfold strN
  rw [smallB, smallL]
  decide
theorem strsN_small (a : ByteArray) : smallB (strsN a) = true := by
  unfold strsN
  rw [smallB, smallL, smallL, smallL, strN_small]
  rfl
theorem strN_text (a : ByteArray) : textN (strN a) = quoteL (bl a) := by
  unfold strN
  rw [textN, if_pos rfl]
theorem strsN_text (a : ByteArray) : (textN (strsN a)).length = 2 * (quoteL (bl a)).length + 3 := by
  unfold strsN
  rw [textN, if_neg (by decide), if_pos rfl, textL, textL, textL, strN_text, Lib.join_cons]
  simp [Lib.joinTail]
  omega
theorem strsN_toks (a : ByteArray) : (toksB (strsN a)).length = 4 := rfl
theorem SexpStr : trufflelaw14_SexpStr.Pure := by
  intro a ha
  refine ⟨2, ?_⟩
  unfold trufflelaw14_SexpStr.f
  rw [awake14_true]
  simp only [Option.bind_some, if_true, trufflelaw14_SexpStr.j0]
  by_cases hb : (a.size : Int) > 600
  · rw [if_pos (decide_eq_true hb)]
  · rw [if_neg (by rw [decide_eq_false hb]; decide)]
    have hq : (quoteL (bl a)).length ≤ 2402 := by
      have hf := flat_length (bl a)
      rw [bl_length] at hf
      unfold quoteL
      simp only [List.length_cons, List.length_append, List.length_nil]
      omega
    have t1 := strN_text a
    have t2 := strsN_text a
    have m1 : mayB (strN a) 0 = true := (may_top _).2 ⟨strN_leaf a, by rw [strN_hgt]; omega⟩
    have m2 : mayB (strsN a) 0 = true := (may_top _).2 ⟨strsN_leaf a, by rw [strsN_hgt]; omega⟩
    have p1 : sexp_Print.f 2 a 0 0 ([] : List (S39)) = some (textS (strN a)) := by
      have := printF_eq (strN a) (strN_small a) (by rw [t1]; omega)
      rw [if_pos m1] at this
      exact this
    have p2 : sexp_Print.f 4 ⟨#[]⟩ 0 0 [⟨2, a, 0, 0, []⟩, ⟨2, a, 0, 0, []⟩] = some (textS (strsN a)) := by
      have := printF_eq (strsN a) (strsN_small a) (by omega)
      rw [if_pos m2] at this
      exact this
    have k1 : sexp_May.f 2 a 0 0 ([] : List (S39)) = some true := by
      have := mayF_eq (strN a) (strN_small a)
      rw [m1] at this
      exact this
    have k2 : sexp_May.f 4 ⟨#[]⟩ 0 0 [⟨2, a, 0, 0, []⟩, ⟨2, a, 0, 0, []⟩] = some true := by
      have := mayF_eq (strsN a) (strsN_small a)
      rw [m2] at this
      exact this
    rw [p1, p2, k1, k2]
    obtain ⟨ts, h1, h2⟩ := scan_text _ (strsN a) (Nat.le_refl _) (strsN_leaf a) (toksB (strsN a)).length 0 [] sep_nil (Nat.le_refl _)
    rw [List.append_nil, scan_nil] at h2
    simp only [preE, List.append_nil] at h2
    have hlen : ts.length = 4 := by rw [← strsN_toks a, ← h1, List.length_map]
    obtain ⟨x2, e1, e2⟩ := (parse_toks (textS (strsN a)) _ ts (strsN a) h2 h1 (strsN_leaf a)).1 (by rw [textS_size]; omega) (by omega) (by rw [strsN_hgt]; omega)
    obtain ⟨ts1, h3, h4⟩ := scan_text _ (strN a) (Nat.le_refl _) (strN_leaf a) (toksB (strN a)).length 0 [] sep_nil (Nat.le_refl _)
    rw [List.append_nil, scan_nil] at h4
    simp only [preE, List.append_nil] at h4
    have hlen1 : ts1.length = 1 := by rw [show 1 = (toksB (strN a)).length from rfl, ← h3, List.length_map]
    obtain ⟨x1, e3, e4⟩ := (parse_toks (textS (strN a)) _ ts1 (strN a) h4 h3 (strN_leaf a)).1 (by rw [textS_size, t1]; omega) (by omega) (by rw [strN_hgt]; omega)
    have s1 : sexp_Same.f x1.f0 x1.f1 x1.f2 x1.f3 x1.f4 2 a 0 0 ([] : List (S39)) = some true := by
      have := sameF_eq x1 (strN a) (by rw [(er_same x1 _ e4).2.2.2.2]; exact strN_small a) (strN_small a)
      rw [(same_iff _ _).2 e4] at this
      exact this
    have s2 : sexp_Same.f x2.f0 x2.f1 x2.f2 x2.f3 x2.f4 4 ⟨#[]⟩ 0 0 [⟨2, a, 0, 0, []⟩, ⟨2, a, 0, 0, []⟩] = some true := by
      have := sameF_eq x2 (strsN a) (by rw [(er_same x2 _ e2).2.2.2.2]; exact strsN_small a) (strsN_small a)
      rw [(same_iff _ _).2 e2] at this
      exact this
    unfold sexp_Parse.f
    simp only [Option.bind_some, e1, e3, if_true, s1, s2]
end Go.Proofs.YtngcojabofkbjaaDoor.P
namespace Go.Proofs.YtngcojabofkbjaaDoor.laidKit
open Go.RowKit
abbrev lst : List (String × DataW Unit) := [("math/bits.deBruijn32tab", Rows.laid_math_bits_deBruijn32tab), ("math/bits.deBruijn64tab", Rows.laid_math_bits_deBruijn64tab), ("internal/strconv.uint64pow10", Rows.laid_internal_strconv_uint64pow10), ("strconv.ErrRange", Rows.laid_strconv_ErrRange), ("strconv.ErrSyntax", Rows.laid_strconv_ErrSyntax)]
theorem gPow : Tryd.prog.globalNamed "internal/strconv.uint64pow10" = some 0 := by kernel_rfl
theorem gPowT : (Tryd.prog.globals[0]?).map (·.type) = some 120 := by kernel_rfl
theorem cPow : Tryd.prog.cellsOf 120 = 20 := by kernel_rfl
theorem cU64 : Tryd.prog.cellsOf 101 = 1 := by kernel_rfl
theorem gRng : Tryd.prog.globalNamed "strconv.ErrRange" = some 2 := by kernel_rfl
theorem gRngT : (Tryd.prog.globals[2]?).map (·.type) = some 67 := by kernel_rfl
theorem gSyn : Tryd.prog.globalNamed "strconv.ErrSyntax" = some 1 := by kernel_rfl
theorem gSynT : (Tryd.prog.globals[1]?).map (·.type) = some 67 := by kernel_rfl
theorem cErr : Tryd.prog.cellsOf 132 = 1 := by kernel_rfl
theorem cStr : Tryd.prog.cellsOf 9 = 1 := by kernel_rfl
theorem star : "*" ++ "errors.errorString" = "*errors.errorString" := by decide
theorem rowErr (u : TypeId) (h : Tryd.prog.typeName? 3 u = some "*errors.errorString") : u = 130 :=
  typeName_ptr_named (nm := "errors.errorString") (by rw [star]; kernel_rfl) (by kernel_rfl) (by decide) u (by rw [star]; exact h)
theorem pow_is : (Rows.laid_internal_strconv_uint64pow10 : DataW Unit) = Lib.tabData .u64 Lib.pow10Tab := by rfl
theorem ginv {W : World} (h : laidMetH Tryd.prog lst W) : P.GInv W := by
  rw [Go.MakeChecks.laidMetH_plain _ _ _ (by kernel_rfl)] at h
  have h3 := h.tail.tail
  have hp : Lib.TabIs Tryd.prog W "internal/strconv.uint64pow10" .u64 Lib.pow10Tab :=
    Lib.tabIs_of_head gPow gPowT Tryd.underlying120 Tryd.underlying101 cU64 cPow (by rw [← pow_is]; exact h3)
  obtain ⟨a1, s1, hv1, _, _, _⟩ := laid_sentinel h3.tail gRng gRngT Tryd.underlying67 rowErr Tryd.underlying130 Tryd.underlying132 rfl rfl Tryd.underlying9 cErr cStr
  obtain ⟨a2, s2, hv2, _, _, _⟩ := laid_sentinel h3.tail.tail gSyn gSynT Tryd.underlying67 rowErr Tryd.underlying130 Tryd.underlying132 rfl rfl Tryd.underlying9 cErr cStr
  refine ⟨⟨_, _, by have h0 := World.var?_cell gSyn hv2 0; simpa using h0⟩, ⟨_, _, by have h0 := World.var?_cell gRng hv1 0; simpa using h0⟩, hp, ?_⟩
  have c0 := hp.cell gPow 0 (by decide)
  exact World.block_lt_of_cell? W _ c0
abbrev synS : ByteArray := { data := #[105, 110, 118, 97, 108, 105, 100, 32, 115, 121, 110, 116, 97, 120] }
abbrev rngS : ByteArray := { data := #[118, 97, 108, 117, 101, 32, 111, 117, 116, 32, 111, 102, 32, 114, 97, 110, 103, 101] }
def cellsOfData : DataW Unit → Array Value
  | .agg l => (l.map fun
      | .lit (.int k n) => Value.int k n
      | _ => .nilIface).toArray
  | _ => #[]
noncomputable def low : Nat := (World.holding Tryd.prog default ⟨#[], #[], []⟩).heap.size
noncomputable def laidWorld (os : Os) : World :=
  let w0 := World.holding Tryd.prog os ⟨#[.cells #[.string synS] 132, .cells #[.string rngS] 132], #[], []⟩
  { w0 with heap := ((((w0.heap.modify 0 fun
      | .cells _ t frozen => .cells (cellsOfData Rows.laid_internal_strconv_uint64pow10) t frozen
      | o => o).modify 1 fun
      | .cells _ t frozen => .cells #[.iface 130 (.pointer (some ⟨low, 0, none⟩))] t frozen
      | o => o).modify 2 fun
      | .cells _ t frozen => .cells #[.iface 130 (.pointer (some ⟨low + 1, 0, none⟩))] t frozen
      | o => o).modify 4 fun
      | .cells _ t frozen => .cells (cellsOfData Rows.laid_math_bits_deBruijn32tab) t frozen
      | o => o).modify 5 fun
      | .cells _ t frozen => .cells (cellsOfData Rows.laid_math_bits_deBruijn64tab) t frozen
      | o => o }
theorem laid_met (os : Os) (args : Array Value) : laidMet Tryd.prog lst ((laidWorld os).forCall (fun _ _ => 0) ⟨#[], args, []⟩).memory :=
  laidMet_of_run' 8 (by kernel_rfl) (by kernel_rfl)
end Go.Proofs.YtngcojabofkbjaaDoor.laidKit
