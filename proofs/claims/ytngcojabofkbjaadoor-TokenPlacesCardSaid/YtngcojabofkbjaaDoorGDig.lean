/- A number's text is one: ParseInt's plain law on FormatInt's. -/
import Derived.Lib.ItoaMem
import Derived.Test.YtngcojabofkbjaaDoorPx0
import Derived.Test.YtngcojabofkbjaaDoorGNum
namespace Go.Proofs.YtngcojabofkbjaaDoor.P
open Go.RowKit Go.Proofs.YtngcojabofkbjaaDoorW.PrintWords Go.Proofs.YtngcojabofkbjaaDoorW.PrintLast Go.Proofs.YtngcojabofkbjaaDoorW.PrintMore
attribute [local go_sem] max2_int min2_int max_two min_two max_three min_three max_four min_four   -- for this text's walks alone
set_option linter.unusedVariables false
set_option linter.unusedSimpArgs false

theorem decDigits_small (u : Nat) (h : u < 10) : Lib.decDigits u = [UInt8.ofNat (48 + u)] := Lib.decDigits_one h
theorem decDigits_big (u : Nat) (h : ¬ u < 10) : Lib.decDigits u = Lib.decDigits (u / 10) ++ [UInt8.ofNat (48 + u % 10)] := by
  conv => lhs; rw [Lib.decDigits]
  rw [dif_neg h]
theorem parseM_append (M : Nat) (l : List UInt8) (d : UInt8) : ∀ acc a, Lib.parseUintM M acc l = .ok a → Lib.parseUintM M acc (l ++ [d]) = Lib.parseUintM M a [d] := by
  induction l with
  | nil => intro acc a h; simp only [Lib.parseUintM] at h; cases h; rfl
  | cons c r ih =>
    intro acc a h
    simp only [List.cons_append, Lib.parseUintM] at h ⊢
    by_cases h1 : 48 ≤ c.toNat ∧ c.toNat ≤ 57
    · rw [if_pos h1] at h ⊢
      split at h
      · cases h
      · rename_i h2
        rw [if_neg h2]
        split at h
        · cases h
        · rename_i h3
          rw [if_neg h3]
          have := ih _ _ h
          simpa only [Lib.parseUintM] using this
    · rw [if_neg h1] at h
      cases h
theorem digit_byte (n : Nat) (h : n < 10) : (UInt8.ofNat (48 + n)).toNat = 48 + n := by rw [UInt8.toNat_ofNat', Nat.mod_eq_of_lt (by omega)]
theorem parseM_dec (u : Nat) : u ≤ 9223372036854775808 → Lib.parseUintM 18446744073709551615 0 (Lib.decDigits u) = .ok u := by
  induction u using Nat.strongRecOn with
  | _ u ih =>
    intro hu
    by_cases h : u < 10
    · rw [decDigits_small u h]
      simp only [Lib.parseUintM, digit_byte u h]
      rw [if_pos (by omega), if_neg (by omega), if_neg (by omega)]
      simp
    · rw [decDigits_big u h, parseM_append _ _ _ _ _ (ih (u / 10) (by omega) (by omega))]
      have hm : u % 10 < 10 := Nat.mod_lt _ (by omega)
      simp only [Lib.parseUintM, digit_byte _ hm]
      rw [if_pos (by omega), if_neg (by omega), if_neg (by omega)]
      congr 1
      omega
theorem decDigits_head (u : Nat) : ∃ c r, Lib.decDigits u = c :: r ∧ 48 ≤ c.toNat ∧ c.toNat ≤ 57 := by
  induction u using Nat.strongRecOn with
  | _ u ih =>
    by_cases h : u < 10
    · exact ⟨_, [], decDigits_small u h, by rw [digit_byte u h]; omega, by rw [digit_byte u h]; omega⟩
    · obtain ⟨c, r, e, h1, h2⟩ := ih (u / 10) (by omega)
      exact ⟨c, r ++ [UInt8.ofNat (48 + u % 10)], by rw [decDigits_big u h, e]; rfl, h1, h2⟩
theorem decDigits_digits (u : Nat) : ∀ c ∈ Lib.decDigits u, 48 ≤ c.toNat ∧ c.toNat ≤ 57 := by
  induction u using Nat.strongRecOn with
  | _ u ih =>
    by_cases h : u < 10
    · rw [decDigits_small u h]
      intro c hc
      simp only [List.mem_singleton] at hc
      subst hc
      rw [digit_byte u h]; omega
    · rw [decDigits_big u h]
      intro c hc
      rcases List.mem_append.mp hc with hc | hc
      · exact ih (u / 10) (by omega) c hc
      · simp only [List.mem_singleton] at hc
        subst hc
        have hm : u % 10 < 10 := Nat.mod_lt _ (by omega)
        rw [digit_byte _ hm]; omega
theorem parse_itoa (n : Int) (h0 : -9223372036854775808 ≤ n) (h1 : n ≤ 9223372036854775807) : Lib.parseIntB 64 (Lib.itoa n) = .ok n := by
  have e63 : (2 : Nat) ^ (64 - 1) = 9223372036854775808 := by decide
  have e64 : (2 : Nat) ^ 64 - 1 = 18446744073709551615 := by decide
  by_cases hn : n < 0
  · obtain ⟨u, hu⟩ : ∃ u : Nat, n = -(u : Int) := ⟨n.natAbs, by omega⟩
    subst hu
    rw [Lib.itoa_neg u (by omega)]
    obtain ⟨c, r, hc, hc1, hc2⟩ := decDigits_head u
    have hp := parseM_dec u (by omega)
    unfold Lib.parseIntB
    have h45 : (45 : UInt8).toNat = 45 := rfl
    simp only [h45, or_true, if_true, Lib.parseUintB, e63, e64, hp]
    rw [if_neg (by rw [hc]; simp)]
    simp only [not_true_eq_false, false_and, if_false, true_and]
    rw [if_neg (by omega)]
  · obtain ⟨u, hu⟩ : ∃ u : Nat, n = (u : Int) := ⟨n.toNat, by omega⟩
    subst hu
    rw [Lib.itoa_nonneg u]
    obtain ⟨c, r, hc, hc1, hc2⟩ := decDigits_head u
    have hp := parseM_dec u (by omega)
    rw [hc] at hp ⊢
    unfold Lib.parseIntB
    have n43 : ¬ (c.toNat = 43 ∨ c.toNat = 45) := by omega
    have n45 : ¬ (c.toNat = 45) := by omega
    simp only [n43, if_false, Lib.parseUintB, e63, e64]
    rw [if_neg (by simp), hp]
    simp only [n45, not_false_eq_true, true_and, false_and, if_false]
    rw [if_neg (by omega)]
theorem numOk_itoa (n : Int) (h0 : -9223372036854775808 ≤ n) (h1 : n ≤ 9223372036854775807) : numOk (Lib.itoa n) = true := by
  unfold numOk; rw [parse_itoa n h0 h1]; simp
theorem numV_itoa (n : Int) (h0 : -9223372036854775808 ≤ n) (h1 : n ≤ 9223372036854775807) : numV (Lib.itoa n) = n := by
  unfold numV; rw [parse_itoa n h0 h1]
theorem itoa_inj {n m : Int} (h0 : -9223372036854775808 ≤ n) (h1 : n ≤ 9223372036854775807) (g0 : -9223372036854775808 ≤ m) (g1 : m ≤ 9223372036854775807) (h : Lib.itoa n = Lib.itoa m) : n = m := by
  rw [← numV_itoa n h0 h1, ← numV_itoa m g0 g1, h]
theorem wf_range {n : Int} (h : (Lit.int .i64 n).wf = true) : -9223372036854775808 ≤ n ∧ n ≤ 9223372036854775807 := by
  simpa [Lit.wf, IntKind.min, IntKind.max, IntKind.signed, IntKind.bits] using h

end Go.Proofs.YtngcojabofkbjaaDoor.P
