/- TokenQuote, without Go: texts that are quoted alike are the same; so are numbers with the same digits; what is quoted has bytes from 32 to 126 alone. -/
import Derived.Lib.ItoaMem
import Derived.Test.YtngcojabofkbjaaDoorPx0
import Derived.Test.YtngcojabofkbjaaDoorPx15
import Derived.Test.YtngcojabofkbjaaDoorGAwake
import Derived.Test.YtngcojabofkbjaaDoorGDig
import Derived.Test.YtngcojabofkbjaaDoorGDigits
import Derived.Test.YtngcojabofkbjaaDoorGLex
import Derived.Test.YtngcojabofkbjaaDoorGQuo
import Derived.Test.YtngcojabofkbjaaDoorGQuote
namespace Go.Proofs.YtngcojabofkbjaaDoor.P
open Go.RowKit Go.Proofs.YtngcojabofkbjaaDoorW.PrintWords Go.Proofs.YtngcojabofkbjaaDoorW.PrintLast Go.Proofs.YtngcojabofkbjaaDoorW.PrintMore
attribute [local go_sem] max2_int min2_int max_two min_two max_three min_three max_four min_four   -- for this text's walks alone
set_option linter.unusedVariables false
set_option linter.unusedSimpArgs false

theorem beq_dec {α : Type} [DecidableEq α] (a b : α) : (a == b) = decide (a = b) := rfl
theorem quote_f (a : ByteArray) (h : a.size ≤ 1000000000000) : token_Quote.f a = some ⟨(quoteL (bl a)).toArray⟩ := by
  unfold token_Quote.f
  rw [if_pos h]
theorem digits_f (n : Int) (h : (Lit.int .i64 n).wf = true) : token_Digits.f n = some ⟨(Lib.itoa n).toArray⟩ := by
  unfold token_Digits.f
  rw [if_pos (wf_range h).1, if_pos (wf_range h).2]
theorem bl_mk (l : List UInt8) : bl ⟨l.toArray⟩ = l := rfl
theorem bl_inj {a b : ByteArray} : bl a = bl b ↔ a = b := ⟨eq_of_bl, fun e => by rw [e]⟩
theorem tq_end (k : Nat) (s t q : ByteArray) (n m : Int) (i : Nat) (hs : s.size ≤ 1000) (ht : t.size ≤ 1000) (hn : (Lit.int .i64 n).wf = true) (hm : (Lit.int .i64 m).wf = true)
    (hq : bl q = quoteL (bl s)) : ((token_Quote.f t).bind fun t308 => (if ((q.toList == t308.toList) == (s.toList == t.toList)) = true then ((token_Digits.f n).bind fun t309 => ((token_Digits.f m).bind fun t310 => (some ((t309.toList == t310.toList) == (n == m))))) else (some false))) = some true := by
  rw [quote_f t (by omega), digits_f n hn, digits_f m hm]
  simp only [Option.bind_some, toList_bl, bl_mk, hq]
  have e1 : (quoteL (bl s) == quoteL (bl t)) = (bl s == bl t) := by
    rw [Bool.eq_iff_iff, beq_iff_eq, beq_iff_eq]
    exact ⟨fun h => quoteL_inj h, fun h => by rw [h]⟩
  have e2 : (Lib.itoa n == Lib.itoa m) = (n == m) := by
    rw [Bool.eq_iff_iff, beq_iff_eq, beq_iff_eq]
    exact ⟨fun h => itoa_inj (wf_range hn).1 (wf_range hn).2 (wf_range hm).1 (wf_range hm).2 h, fun h => by rw [h]⟩
  rw [e1, e2]
  simp
theorem tq_loop (s t q : ByteArray) (n m : Int) (hs : s.size ≤ 1000) (ht : t.size ≤ 1000) (hn : (Lit.int .i64 n).wf = true) (hm : (Lit.int .i64 m).wf = true)
    (hq : bl q = quoteL (bl s)) (hz : q.size ≤ 1000000) : ∀ d k i : Nat, i ≤ q.size → q.size - i ≤ d → d < k → trufflelaw06_TokenQuote.l0 k s t n m q i = some true := by
  intro d
  induction d with
  | zero =>
    intro k i hi hd hk
    obtain ⟨k, rfl⟩ : ∃ m, k = m + 1 := ⟨k - 1, by omega⟩
    simp only [trufflelaw06_TokenQuote.l0]
    rw [if_neg (by omega), tq_end k s t q n m i hs ht hn hm hq]
  | succ d ih =>
    intro k i hi hd hk
    obtain ⟨k, rfl⟩ : ∃ m, k = m + 1 := ⟨k - 1, by omega⟩
    simp only [trufflelaw06_TokenQuote.l0]
    by_cases hlt : i < q.size
    · have hr := quoteL_range (bl s) q[i] (by rw [← hq]; exact List.mem_of_mem_drop (i := i) (by rw [drop_bl q i hlt]; simp))
      rw [if_pos (by omega), if_pos (by omega), bt_nat q i hlt, if_neg (by omega), if_neg (by omega), wrap_small _ (by omega) (by omega)]
      exact ih k (i + 1) (by omega) (by omega) (by omega)
    · rw [if_neg (by omega), tq_end k s t q n m i hs ht hn hm hq]
theorem TokenQuote : trufflelaw06_TokenQuote.Pure := by
  intro a0 a1 a2 a3 h0 h1 h2 h3
  unfold trufflelaw06_TokenQuote.f
  rw [awake_true]
  simp only [Option.bind_some, if_true]
  by_cases g0 : (a0.size : Int) > 1000
  · exact ⟨1, by rw [if_pos g0]; simp [trufflelaw06_TokenQuote.j0]⟩
  · by_cases g1 : (a1.size : Int) > 1000
    · exact ⟨1, by rw [if_neg g0, decide_eq_true g1]; simp [trufflelaw06_TokenQuote.j0]⟩
    · obtain ⟨K, hK⟩ : ∃ K : Nat, 1000000 < K := ⟨_, Nat.lt_succ_self _⟩
      refine ⟨K + 1, ?_⟩
      rw [if_neg g0, decide_eq_false g1]
      simp only [trufflelaw06_TokenQuote.j0]
      rw [if_neg (by decide), quote_f a0 (by omega)]
      simp only [Option.bind_some]
      have hz : (⟨(quoteL (bl a0)).toArray⟩ : ByteArray).size ≤ 1000000 := by
        rw [← bl_length, bl_mk]
        have := flat_length (bl a0)
        rw [bl_length] at this
        unfold quoteL
        simp only [List.length_cons, List.length_append, List.length_nil]
        omega
      exact tq_loop a0 a1 _ a2 a3 (by omega) (by omega) h2 h3 rfl hz 1000000 K 0 (by omega) (by omega) (by omega)

end Go.Proofs.YtngcojabofkbjaaDoor.P
