/- TokenBack, without Go: what is quoted is one token that means it; so is a number's text. -/
import Derived.Lib.ItoaMem
import Derived.Lib.ItoaLen
import Derived.Test.YtngcojabofkbjaaDoorPx0
import Derived.Test.YtngcojabofkbjaaDoorPx15
import Derived.Test.YtngcojabofkbjaaDoorGAwake
import Derived.Test.YtngcojabofkbjaaDoorGCat
import Derived.Test.YtngcojabofkbjaaDoorGDig
import Derived.Test.YtngcojabofkbjaaDoorGFs
import Derived.Test.YtngcojabofkbjaaDoorGLex
import Derived.Test.YtngcojabofkbjaaDoorGQuo
import Derived.Test.YtngcojabofkbjaaDoorGQuote
import Derived.Test.YtngcojabofkbjaaDoorGWhile
namespace Go.Proofs.YtngcojabofkbjaaDoor.P
open Go.RowKit Go.Proofs.YtngcojabofkbjaaDoorW.PrintWords Go.Proofs.YtngcojabofkbjaaDoorW.PrintLast Go.Proofs.YtngcojabofkbjaaDoorW.PrintMore
attribute [local go_sem] max2_int min2_int max_two min_two max_three min_three max_four min_four   -- for this text's walks alone
set_option linter.unusedVariables false
set_option linter.unusedSimpArgs false

theorem itoa_shape (n : Int) : ∃ c r, Lib.itoa n = c :: r ∧ (c.toNat = 45 ∨ 48 ≤ c.toNat ∧ c.toNat ≤ 57) ∧ ∀ x ∈ r, 48 ≤ x.toNat ∧ x.toNat ≤ 57 := by
  by_cases hn : n < 0
  · obtain ⟨u, hu⟩ : ∃ u : Nat, n = -(u : Int) := ⟨n.natAbs, by omega⟩
    subst hu
    rw [Lib.itoa_neg u (by omega)]
    exact ⟨_, _, rfl, .inl rfl, decDigits_digits u⟩
  · obtain ⟨u, hu⟩ : ∃ u : Nat, n = (u : Int) := ⟨n.toNat, by omega⟩
    subst hu
    rw [Lib.itoa_nonneg u]
    obtain ⟨c, r, hc, hc1, hc2⟩ := decDigits_head u
    have := decDigits_digits u
    rw [hc] at this
    exact ⟨c, r, hc, .inr ⟨hc1, hc2⟩, fun x hx => this x (by simp [hx])⟩
theorem ofK_dig (c : UInt8) (h : c.toNat = 45 ∨ 48 ≤ c.toNat ∧ c.toNat ≤ 57) : ofK (c.toNat : Int) = 1 := by
  unfold ofK
  rw [if_neg (by omega), if_pos (by omega)]
theorem numU_dig (c : UInt8) (h : 48 ≤ c.toNat ∧ c.toNat ≤ 57) : numU c = true := by
  unfold numU numB
  rw [ofK_dig c (.inr h)]
  have : ((c.toNat : Int) != 45) = true := by rw [bne_iff_ne]; omega
  rw [this]; rfl
theorem lex1_itoa (n : Int) (h : (Lit.int .i64 n).wf = true) : lex1 (Lib.itoa n) = some (1, Lib.itoa n, n, (Lib.itoa n).length) := by
  obtain ⟨h0, h1⟩ := wf_range h
  have hok := numOk_itoa n h0 h1
  have hv := numV_itoa n h0 h1
  obtain ⟨c, r, e, hc, hr⟩ := itoa_shape n
  rw [e] at hok hv ⊢
  have hl : runN numU (c :: r) = (c :: r).length := by
    simp only [runN, List.length_cons]
    rw [takeWhile_all numU r (fun x hx => numU_dig x (hr x hx))]
    omega
  rw [lex1_cons, hl, List.take_length, hok, hv, ofK_dig c hc]
  rw [if_neg (by decide), if_neg (by decide), if_pos rfl, if_pos rfl]
theorem skip_itoa (n : Int) : skipN false (Lib.itoa n) = 0 := by
  obtain ⟨c, r, e, hc, hr⟩ := itoa_shape n
  rw [e, skipN_f]
  have hb : blankB c = false := by
    unfold blankB
    have e1 : (c == 32) = false := by rw [beq_eq_false_iff_ne]; rintro rfl; revert hc; decide
    have e2 : (c == 9) = false := by rw [beq_eq_false_iff_ne]; rintro rfl; revert hc; decide
    have e3 : (c == 10) = false := by rw [beq_eq_false_iff_ne]; rintro rfl; revert hc; decide
    have e4 : (c == 13) = false := by rw [beq_eq_false_iff_ne]; rintro rfl; revert hc; decide
    rw [e1, e2, e3, e4]; rfl
  rw [hb, if_neg (by simp), if_neg]
  rintro ⟨rfl, _⟩
  revert hc; decide
theorem scan_itoa (m p : Nat) (n : Int) (hm : 0 < m) (h : (Lit.int .i64 n).wf = true) : scan m p (Lib.itoa n) = .inl [⟨1, ⟨(Lib.itoa n).toArray⟩, n, p⟩] := by
  unfold scan
  rw [skip_itoa]
  have hx := lex1_itoa n h
  obtain ⟨c, r, e, hc, hr⟩ := itoa_shape n
  rw [e] at hx ⊢
  simp only [Nat.add_zero, List.drop_zero]
  rw [lx_cons, hx]
  simp only
  rw [if_neg (by omega), List.drop_length]
  simp [scan, skipN, lx_nil, preE]
theorem scan_back (l : List UInt8) (n : Int) (h : (Lit.int .i64 n).wf = true) : scan 1000 0 (quoteL l ++ Lib.itoa n) = .inl [⟨2, ⟨l.toArray⟩, 0, 0⟩, ⟨1, ⟨(Lib.itoa n).toArray⟩, n, ((quoteL l).length : Nat)⟩] := by
  have hs := strL_quote l (Lib.itoa n) ((l.flatMap quote1 ++ 34 :: Lib.itoa n).length + 1) (by
    have : l.length ≤ (l.flatMap quote1).length := by
      clear h
      induction l with
      | nil => simp
      | cons c r ih =>
        have h1 : 1 ≤ (quote1 c).length := by rw [quote1_nat]; split; simp; split; simp; split <;> simp
        rw [List.flatMap_cons, List.length_append, List.length_cons]; omega
    rw [List.length_append]; omega)
  have e : quoteL l ++ Lib.itoa n = 34 :: (l.flatMap quote1 ++ 34 :: Lib.itoa n) := by unfold quoteL; simp
  have el : (quoteL l).length = (l.flatMap quote1).length + 1 + 1 := by unfold quoteL; simp
  have ed : (34 :: (l.flatMap quote1 ++ 34 :: Lib.itoa n)).drop ((l.flatMap quote1).length + 1 + 1) = Lib.itoa n := by
    rw [← el, ← e, List.drop_left]
  have h34 : ofK ((34 : UInt8).toNat : Int) = 2 := by decide
  rw [e]
  unfold scan
  rw [skipN_f, if_neg (by decide), if_neg (by simp)]
  simp only [Nat.add_zero, List.drop_zero]
  rw [lx_cons, lex1_cons, h34, if_neg (by decide), if_neg (by decide), if_neg (by decide), if_pos rfl, hs]
  simp only [Option.map_some]
  rw [if_neg (by decide), ed, scan_itoa _ _ n (by decide) h, el]
  simp [preE]
theorem TokenBack : trufflelaw06_TokenBack.Pure := by
  intro a0 a1 h0 h1
  unfold trufflelaw06_TokenBack.f
  rw [awake_true]
  simp only [Option.bind_some, if_true]
  by_cases g0 : (a0.size : Int) > 1000
  · exact ⟨1, by rw [decide_eq_true g0]; simp [trufflelaw06_TokenBack.j0]⟩
  · refine ⟨1, ?_⟩
    rw [decide_eq_false g0]
    simp only [trufflelaw06_TokenBack.j0]
    have hf := flat_length (bl a0)
    rw [bl_length] at hf
    have hi := Lib.itoa_length_le a1 (wf_range h1).1 (wf_range h1).2
    have zq : (⟨(quoteL (bl a0)).toArray⟩ : ByteArray).size = (quoteL (bl a0)).length := by rw [← bl_length, blMk (quoteL (bl a0))]
    have zd : (⟨(Lib.itoa a1).toArray⟩ : ByteArray).size = (Lib.itoa a1).length := by rw [← bl_length, blMk (Lib.itoa a1)]
    have el : (quoteL (bl a0)).length = ((bl a0).flatMap quote1).length + 1 + 1 := by unfold quoteL; simp
    rw [if_neg (by decide), quoteF a0 (by omega), digitsF a1 h1]
    simp only [Option.bind_some]
    have hall : token_All.f ((⟨(quoteL (bl a0)).toArray⟩ : ByteArray) ++ ⟨(Lib.itoa a1).toArray⟩) = some ([⟨2, ⟨(bl a0).toArray⟩, 0, 0⟩, ⟨1, ⟨(Lib.itoa a1).toArray⟩, a1, ((quoteL (bl a0)).length : Nat)⟩], (((⟨(quoteL (bl a0)).toArray⟩ : ByteArray) ++ ⟨(Lib.itoa a1).toArray⟩).size : Int), 0) := by
      rw [all_small _ (by rw [← bl_length, bl_app, List.length_append, blMk (quoteL (bl a0)), blMk (Lib.itoa a1)]; omega), bl_app, blMk (quoteL (bl a0)), blMk (Lib.itoa a1), scan_back _ _ h1]
      rfl
    rw [if_pos (by omega), hall]
    simp only [Option.bind_some]
    rw [if_pos trivial, if_pos (by simp only [List.length_cons, List.length_nil]; decide), if_pos (by simp only [List.length_cons, List.length_nil]; decide)]
    rw [show rd_T29 [(⟨2, ⟨(bl a0).toArray⟩, 0, 0⟩ : TokS), ⟨1, ⟨(Lib.itoa a1).toArray⟩, a1, ((quoteL (bl a0)).length : Nat)⟩] 0 = ⟨2, ⟨(bl a0).toArray⟩, 0, 0⟩ from rfl,
      show rd_T29 [(⟨2, ⟨(bl a0).toArray⟩, 0, 0⟩ : TokS), ⟨1, ⟨(Lib.itoa a1).toArray⟩, a1, ((quoteL (bl a0)).length : Nat)⟩] 1 = ⟨1, ⟨(Lib.itoa a1).toArray⟩, a1, ((quoteL (bl a0)).length : Nat)⟩ from rfl]
    rw [mk_bl]
    simp only [beq_self_eq_true, Bool.and_self, if_true]
    rw [if_pos (by simp only [List.length_cons, List.length_nil]; decide), zq]
    simp

end Go.Proofs.YtngcojabofkbjaaDoor.P
