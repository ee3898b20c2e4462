/- Part 5 of what the law SexpNest leans on: contracts of the functions that it reaches, and plain lemmas; printed walks and words (by the kit's print, through wip/mp.py) and the session's own texts, one behind the other, what is not used left out (wip/prune.py). -/
import Derived.Lib.ItoaMem
import Derived.Deep.DeepWitnessRowRef
import Derived.Stop.LaidErr
import Derived.Lib.LaidTab
import Derived.LaidLaws
import Derived.MakeChecks
import Derived.Test.YtngcojabofkbjaaDoorRows
import Derived.Test.YtngcojabofkbjaaDoorMSexpNest1
import Derived.Test.YtngcojabofkbjaaDoorMSexpNest2
import Derived.Test.YtngcojabofkbjaaDoorMSexpNest3
import Derived.Test.YtngcojabofkbjaaDoorMSexpNest4
namespace Go.Proofs.YtngcojabofkbjaaDoor.P
open Go.RowKit Go.Proofs.YtngcojabofkbjaaDoorW.PrintWords Go.Proofs.YtngcojabofkbjaaDoorW.PrintLast Go.Proofs.YtngcojabofkbjaaDoorW.PrintMore
set_option linter.unusedVariables false
set_option linter.unusedSimpArgs false
theorem toksBL_one (x : NodeS) : toksBL [x] = toksB x := by rw [toksBL, toksBL, List.append_nil]
theorem toks_pos (x : NodeS) : 1 ≤ (toksB x).length := by
  obtain ⟨k, t, n, a, l⟩ := x
  rw [toksB]
  split <;> simp
theorem toksBL_le (l : List NodeS) : l.length ≤ (toksBL l).length ∧ ∀ y ∈ l, (toksB y).length ≤ (toksBL l).length := by
  induction l with
  | nil => simp [toksBL]
  | cons x r ih =>
    rw [toksBL, List.length_append, List.length_cons]
    have := toks_pos x
    refine ⟨by omega, fun y hy => ?_⟩
    rcases List.mem_cons.1 hy with rfl | hy
    · omega
    · have := ih.2 y hy; omega
theorem small_toks : ∀ (N : Nat) (x : NodeS), SizeOf.sizeOf x ≤ N → leafB x = true → (toksB x).length ≤ 140737488351232 → smallB x = true := by
  intro N
  induction N with
  | zero => intro x hN; obtain ⟨k, t, n, a, l⟩ := x; simp only [S39.mk.sizeOf_spec] at hN; omega
  | succ N ih =>
    intro x hN hx hl
    obtain ⟨k, t, n, a, l⟩ := x
    rw [smallB, Bool.and_eq_true, decide_eq_true_eq, smallL_all, List.all_eq_true]
    by_cases h4 : k = 4
    · subst h4
      rw [leafB, if_pos rfl, Bool.and_eq_true, Bool.and_eq_true, leafL_all] at hx
      rw [toksB, if_pos rfl] at hl
      simp only [List.length_cons, List.length_append, List.length_nil] at hl
      have := toksBL_le l
      exact ⟨by omega, fun y hy => ih y (by have := size_in ⟨4, t, n, a, l⟩ y hy; omega) (hx.2.2 y hy) (by have := this.2 y hy; omega)⟩
    · obtain ⟨rfl, _⟩ := lex1_leaf k t n a l h4 hx
      exact ⟨by simp, fun y hy => by cases hy⟩
theorem mayF_eq (x : NodeS) (h : smallB x = true) : sexp_May.f x.f0 x.f1 x.f2 x.f3 x.f4 = some (mayB x 0) := by
  unfold sexp_May.f sexp_may.f
  rw [node_eta x _ rfl, if_pos h]
  rfl
theorem printF_eq (x : NodeS) (h : smallB x = true) (hl : (textN x).length ≤ 1000000000000) : sexp_Print.f x.f0 x.f1 x.f2 x.f3 x.f4 = some (if mayB x 0 = true then textS x else ⟨#[]⟩) := by
  unfold sexp_Print.f
  rw [mayF_eq x h]
  simp only [Option.bind_some]
  by_cases hm : mayB x 0 = true
  · rw [if_pos hm, if_pos hm]
    unfold sexp_text.f
    rw [node_eta x _ rfl, if_pos hl]
    rfl
  · rw [if_neg hm, if_neg hm]
theorem sameF_eq (x y : NodeS) (h : smallB x = true) (h2 : smallB y = true) : sexp_Same.f x.f0 x.f1 x.f2 x.f3 x.f4 y.f0 y.f1 y.f2 y.f3 y.f4 = some (sameB x y) := by
  unfold sexp_Same.f
  rw [node_eta x _ rfl, node_eta y _ rfl, if_pos ⟨h, h2⟩]
theorem itoa_5 : Lib.itoa 5 = [53] := by
  rw [show (5 : Int) = ((5 : Nat) : Int) from rfl, Lib.itoa_nonneg 5, Lib.decDigits_one (by omega)]
  decide
theorem parse_5 : Lib.parseIntB 64 [53] = .ok 5 := by decide
theorem numOk_5 : numOk [53] = true := by
  unfold numOk
  rw [parse_5]
  simp only [itoa_5, decide_true]
theorem numV_5 : numV [53] = 5 := by unfold numV; rw [parse_5]
theorem lex_5 (r : List UInt8) (hr : sepL r) : lex1 (53 :: r) = some (1, [53], 5, 1) := by
  have h : lex1 [53] = some (1, [53], 5, 1) := by
    rw [lex1_cons, if_neg (by decide), if_neg (by decide), if_pos (by decide)]
    have e : List.take (runN numU [53]) ([53] : List UInt8) = [53] := by decide
    have e2 : runN numU [53] = 1 := by decide
    rw [e, numOk_5, numV_5, if_pos rfl, e2]
  exact lex1_sep [53] r hr _ h
def exN : NodeS := ⟨4, ⟨#[]⟩, 0, 0, [⟨0, ⟨#[101, 113]⟩, 0, 1, []⟩, ⟨0, ⟨#[97]⟩, 0, 4, []⟩, ⟨1, ⟨#[53]⟩, 5, 6, []⟩]⟩
theorem allF_ex14 : allF ⟨#[40, 101, 113, 32, 97, 32, 53, 41]⟩ = ([⟨3, ⟨#[40]⟩, 0, 0⟩, ⟨0, ⟨#[101, 113]⟩, 0, 1⟩, ⟨0, ⟨#[97]⟩, 0, 4⟩, ⟨1, ⟨#[53]⟩, 5, 6⟩, ⟨3, ⟨#[41]⟩, 0, 7⟩], 8, 0) := by
  have e1 : lex1 [40, 101, 113, 32, 97, 32, 53, 41] = some (3, [40], 0, 1) := by decide
  have e2 : lex1 [101, 113, 32, 97, 32, 53, 41] = some (0, [101, 113], 0, 2) := by decide
  have e3 : lex1 [97, 32, 53, 41] = some (0, [97], 0, 1) := by decide
  have e4 : lex1 [53, 41] = some (1, [53], 5, 1) := lex_5 [41] (sep_cons _ _ (by decide) (by decide))
  have e5 : lex1 [41] = some (3, [41], 0, 1) := by decide
  have s0 : skipN false [40, 101, 113, 32, 97, 32, 53, 41] = 0 := by decide
  have s1 : skipN false [101, 113, 32, 97, 32, 53, 41] = 0 := by decide
  have s2 : skipN false [32, 97, 32, 53, 41] = 1 := by decide
  have s3 : skipN false [32, 53, 41] = 1 := by decide
  have s4 : skipN false [41] = 0 := by decide
  have s5 : skipN false [] = 0 := by decide
  have b : bl ⟨#[40, 101, 113, 32, 97, 32, 53, 41]⟩ = [40, 101, 113, 32, 97, 32, 53, 41] := rfl
  have z : (⟨#[40, 101, 113, 32, 97, 32, 53, 41]⟩ : ByteArray).size = 8 := rfl
  unfold allF allL
  rw [z, if_neg (by omega), b, s0]
  simp only [List.length_cons, List.length_nil, List.drop_zero, lexL, e1, e2, e3, e4, e5, s1, s2, s3, s4, s5, List.drop_succ_cons, List.drop_nil, endL, List.nil_append, z]
  rfl
theorem parse_ex14 : parseN ⟨#[40, 101, 113, 32, 97, 32, 53, 41]⟩ = (exN, 8, 0) := by
  unfold parseN
  rw [allF_ex14]
  have d1 : doesI ⟨3, ⟨#[40]⟩, 0, 0⟩ = 1 := does_open _ rfl
  have d2 : doesI ⟨0, ⟨#[101, 113]⟩, 0, 1⟩ = 0 := by rw [doesI_bare]; rfl
  have d3 : doesI ⟨0, ⟨#[97]⟩, 0, 4⟩ = 0 := by rw [doesI_bare]; rfl
  have d4 : doesI ⟨1, ⟨#[53]⟩, 5, 6⟩ = 0 := by rw [doesI_bare]; rfl
  have d5 : doesI ⟨3, ⟨#[41]⟩, 0, 7⟩ = 2 := does_shut _ rfl
  rw [if_neg (by decide)]
  simp only [parseL, d1, d2, d3, d4, d5]
  rfl
theorem may_ex14 : mayB exN 0 = true := by
  have h1 : aloneB 0 ⟨#[101, 113]⟩ 0 = true := (alone_self _ _ _ (.inl rfl)).2 ⟨by decide, .inl rfl, by decide⟩
  have h2 : aloneB 0 ⟨#[97]⟩ 0 = true := (alone_self _ _ _ (.inl rfl)).2 ⟨by decide, .inl rfl, by decide⟩
  have h3 : aloneB 1 ⟨#[53]⟩ 5 = true := (alone_self _ _ _ (.inr rfl)).2 ⟨by decide, .inr rfl, lex_5 [] sep_nil⟩
  have hb : ((⟨#[]⟩ : ByteArray).toList == []) = true := (toList_nil _).2 rfl
  unfold exN
  simp only [mayB, mayL, h1, h2, h3, hb]
  decide
theorem awake14_true : trufflelaw14_awake.f = some true := by
  unfold trufflelaw14_awake.f sexp_Parse.f
  rw [parse_ex14]
  have hs : smallB exN = true := by decide
  have ht : textN exN = [40, 101, 113, 32, 97, 32, 53, 41] := by decide
  simp only [Option.bind_some]
  rw [mayF_eq exN hs, printF_eq exN hs (by rw [ht]; decide), may_ex14]
  simp only [Option.bind_some, if_true, toList_bl, textS, ht]
  decide
end Go.Proofs.YtngcojabofkbjaaDoor.P
namespace Go.Proofs.YtngcojabofkbjaaDoor.P
open Go.RowKit Go.Proofs.YtngcojabofkbjaaDoorW.PrintWords Go.Proofs.YtngcojabofkbjaaDoorW.PrintLast Go.Proofs.YtngcojabofkbjaaDoorW.PrintMore
set_option linter.unusedVariables false
set_option linter.unusedSimpArgs false
theorem node_ext {k k' : Int} {t t' : ByteArray} {n n' a a' : Int} {l l' : List NodeS} : (⟨k, t, n, a, l⟩ : NodeS) = ⟨k', t', n', a', l'⟩ ↔ k = k' ∧ t = t' ∧ n = n' ∧ a = a' ∧ l = l' := by
  constructor
  · intro h; injection h with h1 h2 h3 h4 h5; exact ⟨h1, h2, h3, h4, h5⟩
  · rintro ⟨rfl, rfl, rfl, rfl, rfl⟩; rfl
theorem same_er : ∀ (N : Nat) (x y : NodeS), SizeOf.sizeOf x ≤ N → (sameB x y = true ↔ erN x = erN y) := by
  intro N
  induction N with
  | zero => intro x y hN; obtain ⟨k, t, n, a, l⟩ := x; simp only [S39.mk.sizeOf_spec] at hN; omega
  | succ N ih =>
    intro x y hN
    obtain ⟨k, t, n, a, l⟩ := x
    obtain ⟨k', t', n', a', l'⟩ := y
    have hl : ∀ (l l' : List NodeS), (∀ z ∈ l, SizeOf.sizeOf z ≤ N) → (sameL l l' = true ↔ erL l = erL l') := by
      intro l
      induction l with
      | nil => intro l' _; cases l' <;> simp [sameL, erL]
      | cons z r ihr =>
        intro l' hz
        cases l' with
        | nil => simp [sameL, erL]
        | cons u s =>
          rw [sameL, Bool.and_eq_true, ih z u (hz z (by simp)), ihr s (fun v hv => hz v (by simp [hv])), erL, erL]
          simp
    rw [sameB, erN, erN, node_ext, ← hl l l' (fun z hz => by have := size_in ⟨k, t, n, a, l⟩ z hz; omega)]
    by_cases h1 : k = k'
    · rw [if_pos h1]
      by_cases h2 : t.toList = t'.toList
      · rw [if_pos h2]
        have h2' : t = t' := by rw [toList_bl, toList_bl] at h2; exact eq_of_bl h2
        by_cases h3 : n = n'
        · rw [if_pos h3]; simp [h1, h2', h3]
        · rw [if_neg h3]; simp [h3]
      · rw [if_neg h2]
        have h2' : ¬ t = t' := fun h => h2 (by rw [h])
        simp [h2']
    · rw [if_neg h1]; simp [h1]
theorem same_iff (x y : NodeS) : sameB x y = true ↔ erN x = erN y := same_er _ x y (Nat.le_refl _)
theorem er_toks : ∀ (N : Nat) (x : NodeS), SizeOf.sizeOf x ≤ N → toksB (erN x) = toksB x ∧ textN (erN x) = textN x ∧ leafB (erN x) = leafB x ∧ hgt (erN x) = hgt x ∧ smallB (erN x) = smallB x := by
  intro N
  induction N with
  | zero => intro x hN; obtain ⟨k, t, n, a, l⟩ := x; simp only [S39.mk.sizeOf_spec] at hN; omega
  | succ N ih =>
    intro x hN
    obtain ⟨k, t, n, a, l⟩ := x
    have hl : ∀ (l : List NodeS), (∀ z ∈ l, SizeOf.sizeOf z ≤ N) → toksBL (erL l) = toksBL l ∧ textL (erL l) = textL l ∧ leafL (erL l) = leafL l ∧ hgtL (erL l) = hgtL l ∧ smallL (erL l) = smallL l ∧ (erL l).length = l.length := by
      intro l
      induction l with
      | nil => intro _; exact ⟨rfl, rfl, rfl, rfl, rfl, rfl⟩
      | cons z r ihr =>
        intro hz
        obtain ⟨h1, h2, h3, h4, h5⟩ := ih z (hz z (by simp))
        obtain ⟨g1, g2, g3, g4, g5, g6⟩ := ihr (fun v hv => hz v (by simp [hv]))
        rw [erL, toksBL, toksBL, textL, textL, leafL, leafL, hgtL, hgtL, smallL, smallL, h1, h2, h3, h4, h5, g1, g2, g3, g4, g5, List.length_cons, List.length_cons, g6]
        exact ⟨rfl, rfl, rfl, rfl, rfl, rfl⟩
    obtain ⟨g1, g2, g3, g4, g5, g6⟩ := hl l (fun z hz => by have := size_in ⟨k, t, n, a, l⟩ z hz; omega)
    rw [erN, toksB, toksB, textN, textN, leafB, leafB, hgt, hgt, smallB, smallB, g1, g2, g3, g4, g5, g6]
    exact ⟨rfl, rfl, rfl, rfl, rfl⟩
theorem er_same (x y : NodeS) (h : erN x = erN y) : toksB x = toksB y ∧ textN x = textN y ∧ leafB x = leafB y ∧ hgt x = hgt y ∧ smallB x = smallB y := by
  obtain ⟨a1, a2, a3, a4, a5⟩ := er_toks _ x (Nat.le_refl _)
  obtain ⟨b1, b2, b3, b4, b5⟩ := er_toks _ y (Nat.le_refl _)
  rw [← a1, ← a2, ← a3, ← a4, ← a5, h]
  exact ⟨b1, b2, b3, b4, b5⟩
theorem parse_eq (s : ByteArray) (hs : s.size ≤ 5000) (ts : List TokS) (h : scan 1000 0 (bl s) = .inl ts) : parseN s = parseEnd s.size (parseL ts [zN]) := by
  have ha : allF s = endL s [] (scan 1000 0 (bl s)) := Option.some.inj (all_small s hs)
  unfold parseN
  rw [ha, h]
  exact if_neg (show ¬ ((0 : Int) ≠ 0) by decide)
theorem parse_toks (s : ByteArray) (M : Nat) (ts : List TokS) (x : NodeS) (hsc : scan M 0 (bl s) = .inl ts) (hts : ts.map bareT = toksB x) (hx : leafB x = true) :
    (s.size ≤ 5000 → ts.length ≤ 1000 → hgt x ≤ 16 → ∃ x', parseN s = (x', (s.size : Int), 0) ∧ erN x' = erN x) ∧ (s.size ≤ 5000 → ts.length ≤ 1000 → 16 < hgt x → ∃ p, parseN s = (zN, p, 2)) ∧
    (5000 < s.size ∨ 1000 < ts.length → (parseN s).2.2 = 2 ∧ (parseN s).1 = zN ∧ 1000 < s.size) := by
  obtain ⟨c1, c2⟩ := scan_cut _ _ 1000 _ _ _ (Nat.le_refl _) hsc
  have hf0 : ¬ (([zN] : List NodeS).length = 1 ∧ (topN [zN]).f4.length = 1) := by rintro ⟨_, h⟩; exact absurd h (by decide)
  refine ⟨fun h1 h2 h3 => ?_, fun h1 h2 h3 => ?_, fun h => ?_⟩
  · rw [parse_eq s h1 ts (c1 h2)]
    obtain ⟨x', e1, _, e3⟩ := parse_node _ x (Nat.le_refl _) hx ts [zN] [] hts (by decide) hf0 (.inr (by simp; exact h3))
    rw [List.append_nil] at e3
    refine ⟨x', ?_, e1⟩
    rw [e3, show ([zN] : List NodeS) = [] ++ [zN] from rfl, add_snoc, parseL]
    rfl
  · rw [parse_eq s h1 ts (c1 h2)]
    obtain ⟨p, hp⟩ := deep_node _ x (Nat.le_refl _) hx ts [zN] [] hts (by decide) (by decide) hf0 (by unfold roomT; simp; omega)
    rw [List.append_nil] at hp
    exact ⟨p, by rw [hp]; rfl⟩
  · by_cases hs : 5000 < s.size
    · have he := allF_big' s hs
      have hp : parseN s = (zN, (allF s).2.1, (allF s).2.2) := by unfold parseN; exact if_pos (by omega)
      rw [hp]
      exact ⟨he, rfl, by omega⟩
    · obtain ⟨q, hq⟩ := c2 (by omega)
      have ha : allF s = endL s [] (scan 1000 0 (bl s)) := Option.some.inj (all_small s (by omega))
      have hp : parseN s = (zN, (q : Int), 2) := by
        unfold parseN
        rw [ha, hq]
        exact if_pos (show (2 : Int) ≠ 0 by decide)
      rw [hp]
      have := (scan_len _ _ _ _ _ (Nat.le_refl _) hsc).1
      rw [bl_length] at this
      exact ⟨rfl, rfl, by omega⟩
theorem textS_size (x : NodeS) : (textS x).size = (textN x).length := by rw [← bl_length]; rfl
theorem parse_text (x : NodeS) (hx : leafB x = true) :
    ((textN x).length ≤ 1000 → hgt x ≤ 16 → ∃ x', parseN (textS x) = (x', ((textS x).size : Int), 0) ∧ erN x' = erN x) ∧
    (hgt x ≤ 16 → (∃ x', parseN (textS x) = (x', ((textS x).size : Int), 0) ∧ erN x' = erN x) ∨ ((parseN (textS x)).2.2 = 2 ∧ (parseN (textS x)).1 = zN ∧ 1000 < (textS x).size)) := by
  obtain ⟨ts, h1, h2⟩ := scan_text _ x (Nat.le_refl _) hx (toksB x).length 0 [] sep_nil (Nat.le_refl _)
  rw [List.append_nil, scan_nil] at h2
  simp only [preE, List.append_nil] at h2
  have hlen : ts.length = (toksB x).length := by rw [← h1, List.length_map]
  have hle := (toks_len _ x (Nat.le_refl _) hx).2
  obtain ⟨p1, p2, p3⟩ := parse_toks (textS x) (toksB x).length ts x h2 h1 hx
  have hz := textS_size x
  refine ⟨fun g1 g2 => p1 (by omega) (by omega) g2, fun g2 => ?_⟩
  by_cases hb : 5000 < (textS x).size ∨ 1000 < ts.length
  · exact .inr (p3 hb)
  · exact .inl (p1 (by omega) (by omega) g2)
end Go.Proofs.YtngcojabofkbjaaDoor.P
namespace Go.Proofs.YtngcojabofkbjaaDoor.P
open Go.RowKit Go.Proofs.YtngcojabofkbjaaDoorW.PrintWords Go.Proofs.YtngcojabofkbjaaDoorW.PrintLast Go.Proofs.YtngcojabofkbjaaDoorW.PrintMore
set_option linter.unusedVariables false
set_option linter.unusedSimpArgs false
def nestN : Nat → NodeS
  | 0 => ⟨0, ⟨#[97]⟩, 0, 0, []⟩
  | n + 1 => ⟨4, ⟨#[]⟩, 0, 0, [nestN n]⟩
theorem nest_text (n : Nat) : textN (nestN n) = List.replicate n 40 ++ 97 :: List.replicate n 41 := by
  induction n with
  | zero => rfl
  | succ n ih =>
    rw [nestN, textN, if_neg (by decide), if_pos rfl, textL, textL, ih, Lib.join_one, List.replicate_succ, List.replicate_succ']
    simp
theorem nest_leaf (n : Nat) : leafB (nestN n) = true := by
  induction n with
  | zero =>
    have h2 : aloneB 0 ⟨#[97]⟩ 0 = true := (alone_self _ _ _ (.inl rfl)).2 ⟨by decide, .inl rfl, by decide⟩
    rw [nestN, leafB, if_neg (by decide), if_pos (.inl rfl), h2]
    decide
  | succ n ih =>
    rw [nestN, leafB, if_pos rfl, leafL, leafL, ih, (toList_nil _).2 rfl]
    decide
theorem nest_hgt (n : Nat) : hgt (nestN n) = n := by
  induction n with
  | zero => rfl
  | succ n ih =>
    rw [nestN, hgt, if_pos rfl, hgtL, hgtL, ih]
    omega
theorem nest_toks (n : Nat) : (toksB (nestN n)).length = 2 * n + 1 := by
  induction n with
  | zero => rfl
  | succ n ih =>
    rw [nestN, toksB, if_pos rfl, toksBL_one]
    simp only [List.length_cons, List.length_append, List.length_nil, ih]
    omega
theorem nest_len (n : Nat) : (textN (nestN n)).length = 2 * n + 1 := by
  rw [nest_text]
  simp
  omega
theorem nest_small (n : Nat) (h : n ≤ 1000) : smallB (nestN n) = true := small_toks _ _ (Nat.le_refl _) (nest_leaf n) (by rw [nest_toks]; omega)
def opens (p : Nat) : Nat → List TokS
  | 0 => []
  | k + 1 => ⟨3, ⟨#[40]⟩, 0, (p : Nat)⟩ :: opens (p + 1) k
theorem scan_opens (r : List UInt8) : ∀ (k M p : Nat), k ≤ M → scan M p (List.replicate k 40 ++ r) = preE (opens p k) (scan (M - k) (p + k) r)
  | 0, M, p, h => by simp [opens, preE_no]
  | k + 1, M, p, h => by
    have hs40 : ∀ (r : List UInt8), scan M p (40 :: r) = preE [⟨3, ⟨#[40]⟩, 0, p⟩] (scan (M - 1) (p + 1) r) := by
      intro r
      have h34 : ofK ((40 : UInt8).toNat : Int) = 3 := by decide
      conv => lhs; unfold scan
      rw [skip_tok 40 _ (by decide), Nat.add_zero, List.drop_zero, lx_cons, lex1_cons, h34, if_neg (by decide), if_neg (by decide), if_neg (by decide), if_neg (by decide)]
      simp only
      rw [if_neg (by omega)]
      rfl
    rw [List.replicate_succ, List.cons_append, hs40, scan_opens r k (M - 1) (p + 1) (by omega), preE_two, opens]
    congr 2 <;> omega
theorem parse_opens (rest : List TokS) : ∀ (k p : Nat) (st : List NodeS), st.length = p + 1 → p ≤ 16 → 17 ≤ p + k → ¬ (st.length = 1 ∧ (topN st).f4.length = 1) → parseL (opens p k ++ rest) st = .inr (16, 2)
  | 0, p, st, h1, h2, h3, h4 => by omega
  | k + 1, p, st, h1, h2, h3, h4 => by
    rw [opens, List.cons_append, parse_open _ _ st (does_open _ rfl) h4]
    by_cases h5 : st.length > 16
    · rw [if_pos h5]
      have : p = 16 := by omega
      subst this; rfl
    · rw [if_neg h5]
      exact parse_opens rest k (p + 1) _ (by simp; omega) (by omega) (by omega) (not_full _ _ (by omega))
theorem nest_parse (n : Nat) (h : n ≤ 100) : (n ≤ 16 → ∃ x', parseN (textS (nestN n)) = (x', ((textS (nestN n)).size : Int), 0) ∧ erN x' = erN (nestN n)) ∧ (16 < n → parseN (textS (nestN n)) = (zN, 16, 2)) := by
  have hl := nest_len n
  have hz := textS_size (nestN n)
  refine ⟨fun h1 => (parse_text (nestN n) (nest_leaf n)).1 (by omega) (by rw [nest_hgt]; exact h1), fun h1 => ?_⟩
  obtain ⟨ts, h2, h3⟩ := scan_text _ (nestN n) (Nat.le_refl _) (nest_leaf n) 1000 0 [] sep_nil (by rw [nest_toks]; omega)
  rw [List.append_nil, scan_nil] at h3
  simp only [preE, List.append_nil] at h3
  rw [parse_eq _ (by omega) ts h3]
  have h4 := h3
  rw [nest_text, scan_opens _ n 1000 0 (by omega)] at h4
  obtain ⟨us, _, h5⟩ := preE_len _ _ _ h4
  rw [h5, parse_opens us n 0 [zN] rfl (by omega) (by omega) (by rintro ⟨_, h⟩; exact absurd h (by decide))]
  rfl
theorem sn_end (n : Nat) (h : n ≤ 100) (k : Nat) : trufflelaw14_SexpNest.l0 (k + 1) n (textS (nestN n)) n (nestN n).f0 (nestN n).f1 (nestN n).f2 (nestN n).f3 (nestN n).f4 = some true := by
  obtain ⟨h1, h2⟩ := nest_parse n h
  have hsm := nest_small n (by omega)
  have hm := mayF_eq (nestN n) hsm
  have hl := nest_len n
  have hp := printF_eq (nestN n) hsm (by omega)
  have hmt := may_top (nestN n)
  rw [nest_hgt] at hmt
  simp only [trufflelaw14_SexpNest.l0]
  rw [if_neg (by omega)]
  unfold sexp_Parse.f
  simp only [Option.bind_some]
  by_cases h16 : 16 < n
  · have hno : mayB (nestN n) 0 = false := by
      cases hb : mayB (nestN n) 0 with
      | false => rfl
      | true => have := (hmt.1 hb).2; omega
    rw [if_pos (by omega), h2 h16]
    simp only [if_true, hm, hno, Option.bind_some, Bool.not_false]
  · obtain ⟨x', e1, e2⟩ := h1 (by omega)
    have hyes : mayB (nestN n) 0 = true := hmt.2 ⟨nest_leaf n, by omega⟩
    have hs := sameF_eq (nestN n) x' hsm (by rw [(er_same _ _ e2).2.2.2.2]; exact hsm)
    rw [(same_iff _ _).2 e2.symm] at hs
    rw [if_neg (by omega), e1]
    simp only [if_true, hm, hyes, Option.bind_some, hs, hp, beq_self_eq_true]
theorem nest_step (n : Nat) : ((⟨#[40]⟩ : ByteArray) ++ textS (nestN n)) ++ (⟨#[41]⟩ : ByteArray) = textS (nestN (n + 1)) := by
  apply eq_of_bl
  rw [bl_app, bl_app]
  show ([40] ++ textN (nestN n)) ++ [41] = textN (nestN (n + 1))
  rw [nestN, textN, if_neg (by decide), if_pos rfl, textL, textL, Lib.join_one]
  simp
theorem sn_loop (n : Nat) (h : n ≤ 100) : ∀ (d i k : Nat), i + d = n → d < k → trufflelaw14_SexpNest.l0 k n (textS (nestN i)) i (nestN i).f0 (nestN i).f1 (nestN i).f2 (nestN i).f3 (nestN i).f4 = some true
  | 0, i, k, hi, hk => by
    obtain ⟨k, rfl⟩ : ∃ m, k = m + 1 := ⟨k - 1, by omega⟩
    obtain rfl : i = n := by omega
    exact sn_end i h k
  | d + 1, i, k, hi, hk => by
    obtain ⟨k, rfl⟩ : ∃ m, k = m + 1 := ⟨k - 1, by omega⟩
    have ih := sn_loop n h d (i + 1) k (by omega) (by omega)
    have hz := textS_size (nestN i)
    have hl := nest_len i
    have hw : wrap64 ((i : Int) + 1) = ((i + 1 : Nat) : Int) := by rw [wrap_small _ (by omega) (by omega)]; omega
    have e_ : ∀ a b : ByteArray, (a ++ b).size = a.size + b.size := fun a b => ByteArray.size_append
    simp only [trufflelaw14_SexpNest.l0]
    rw [if_pos (by omega), if_pos (by omega), if_pos (by rw [e_]; show 1 + _ + 1 ≤ _; omega), nest_step, hw, node_eta (nestN i) _ rfl]
    exact ih
theorem SexpNest : trufflelaw14_SexpNest.Pure := by
  intro a ha
  refine ⟨1000, ?_⟩
  unfold trufflelaw14_SexpNest.f
  rw [awake14_true]
  simp only [Option.bind_some, if_true]
  by_cases h0 : a < 0
  · rw [if_pos h0]; rfl
  · rw [if_neg h0]
    by_cases h1 : a > 100
    · rw [decide_eq_true h1]; rfl
    · rw [decide_eq_false h1]
      obtain ⟨n, rfl⟩ := Int.eq_ofNat_of_zero_le (show 0 ≤ a by omega)
      simp only [trufflelaw14_SexpNest.j0]
      rw [if_neg (by decide)]
      exact sn_loop n (by omega) n 0 999 (by omega) (by omega)
end Go.Proofs.YtngcojabofkbjaaDoor.P
namespace Go.Proofs.YtngcojabofkbjaaDoor.laidKit
open Go.RowKit
abbrev lst : List (String × DataW Unit) := [("math/bits.deBruijn32tab", Rows.laid_math_bits_deBruijn32tab), ("math/bits.deBruijn64tab", Rows.laid_math_bits_deBruijn64tab), ("internal/strconv.uint64pow10", Rows.laid_internal_strconv_uint64pow10), ("strconv.ErrRange", Rows.laid_strconv_ErrRange), ("strconv.ErrSyntax", Rows.laid_strconv_ErrSyntax)]
theorem gPow : Tryd.prog.globalNamed "internal/strconv.uint64pow10" = some 0 := by kernel_rfl
theorem gPowT : (Tryd.prog.globals[0]?).map (·.type) = some 120 := by kernel_rfl
theorem cPow : Tryd.prog.cellsOf 120 = 20 := by kernel_rfl
theorem cU64 : Tryd.prog.cellsOf 101 = 1 := by kernel_rfl
theorem gRng : Tryd.prog.globalNamed "strconv.ErrRange" = some 2 := by kernel_rfl
theorem gRngT : (Tryd.prog.globals[2]?).map (·.type) = some 67 := by kernel_rfl
theorem gSyn : Tryd.prog.globalNamed "strconv.ErrSyntax" = some 1 := by kernel_rfl
theorem gSynT : (Tryd.prog.globals[1]?).map (·.type) = some 67 := by kernel_rfl
theorem cErr : Tryd.prog.cellsOf 132 = 1 := by kernel_rfl
theorem cStr : Tryd.prog.cellsOf 9 = 1 := by kernel_rfl
theorem star : "*" ++ "errors.errorString" = "*errors.errorString" := by decide
theorem rowErr (u : TypeId) (h : Tryd.prog.typeName? 3 u = some "*errors.errorString") : u = 130 :=
  typeName_ptr_named (nm := "errors.errorString") (by rw [star]; kernel_rfl) (by kernel_rfl) (by decide) u (by rw [star]; exact h)
theorem pow_is : (Rows.laid_internal_strconv_uint64pow10 : DataW Unit) = Lib.tabData .u64 Lib.pow10Tab := by rfl
theorem ginv {W : World} (h : laidMetH Tryd.prog lst W) : P.GInv W := by
  rw [Go.MakeChecks.laidMetH_plain _ _ _ (by kernel_rfl)] at h
  have h3 := h.tail.tail
  have hp : Lib.TabIs Tryd.prog W "internal/strconv.uint64pow10" .u64 Lib.pow10Tab :=
    Lib.tabIs_of_head gPow gPowT Tryd.underlying120 Tryd.underlying101 cU64 cPow (by rw [← pow_is]; exact h3)
  obtain ⟨a1, s1, hv1, _, _, _⟩ := laid_sentinel h3.tail gRng gRngT Tryd.underlying67 rowErr Tryd.underlying130 Tryd.underlying132 rfl rfl Tryd.underlying9 cErr cStr
  obtain ⟨a2, s2, hv2, _, _, _⟩ := laid_sentinel h3.tail.tail gSyn gSynT Tryd.underlying67 rowErr Tryd.underlying130 Tryd.underlying132 rfl rfl Tryd.underlying9 cErr cStr
  refine ⟨⟨_, _, by have h0 := World.var?_cell gSyn hv2 0; simpa using h0⟩, ⟨_, _, by have h0 := World.var?_cell gRng hv1 0; simpa using h0⟩, hp, ?_⟩
  have c0 := hp.cell gPow 0 (by decide)
  exact World.block_lt_of_cell? W _ c0
abbrev synS : ByteArray := { data := #[105, 110, 118, 97, 108, 105, 100, 32, 115, 121, 110, 116, 97, 120] }
abbrev rngS : ByteArray := { data := #[118, 97, 108, 117, 101, 32, 111, 117, 116, 32, 111, 102, 32, 114, 97, 110, 103, 101] }
def cellsOfData : DataW Unit → Array Value
  | .agg l => (l.map fun
      | .lit (.int k n) => Value.int k n
      | _ => .nilIface).toArray
  | _ => #[]
noncomputable def low : Nat := (World.holding Tryd.prog default ⟨#[], #[], []⟩).heap.size
noncomputable def laidWorld (os : Os) : World :=
  let w0 := World.holding Tryd.prog os ⟨#[.cells #[.string synS] 132, .cells #[.string rngS] 132], #[], []⟩
  { w0 with heap := ((((w0.heap.modify 0 fun
      | .cells _ t frozen => .cells (cellsOfData Rows.laid_internal_strconv_uint64pow10) t frozen
      | o => o).modify 1 fun
      | .cells _ t frozen => .cells #[.iface 130 (.pointer (some ⟨low, 0, none⟩))] t frozen
      | o => o).modify 2 fun
      | .cells _ t frozen => .cells #[.iface 130 (.pointer (some ⟨low + 1, 0, none⟩))] t frozen
      | o => o).modify 4 fun
      | .cells _ t frozen => .cells (cellsOfData Rows.laid_math_bits_deBruijn32tab) t frozen
      | o => o).modify 5 fun
      | .cells _ t frozen => .cells (cellsOfData Rows.laid_math_bits_deBruijn64tab) t frozen
      | o => o }
theorem laid_met (os : Os) (args : Array Value) : laidMet Tryd.prog lst ((laidWorld os).forCall (fun _ _ => 0) ⟨#[], args, []⟩).memory :=
  laidMet_of_run' 8 (by kernel_rfl) (by kernel_rfl)
end Go.Proofs.YtngcojabofkbjaaDoor.laidKit
