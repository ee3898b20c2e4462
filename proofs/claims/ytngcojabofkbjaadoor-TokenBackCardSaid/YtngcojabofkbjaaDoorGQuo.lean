/- What is quoted is read back: the string's plain law. -/
import Derived.Test.YtngcojabofkbjaaDoorPx0
import Derived.Test.YtngcojabofkbjaaDoorGLex
import Derived.Test.YtngcojabofkbjaaDoorGQuote
namespace Go.Proofs.YtngcojabofkbjaaDoor.P
open Go.RowKit Go.Proofs.YtngcojabofkbjaaDoorW.PrintWords Go.Proofs.YtngcojabofkbjaaDoorW.PrintLast Go.Proofs.YtngcojabofkbjaaDoorW.PrintMore
attribute [local go_sem] max2_int min2_int max_two min_two max_three min_three max_four min_four   -- for this text's walks alone
set_option linter.unusedVariables false
set_option linter.unusedSimpArgs false

theorem hexI_hexB : ∀ n : Fin 16, hexI (hexB n.val) = n.val := by decide
theorem hexB_range : ∀ n : Fin 16, 32 ≤ (hexB n.val).toNat ∧ (hexB n.val).toNat ≤ 126 := by decide
theorem quote1_range (c : UInt8) : ∀ b ∈ quote1 c, 32 ≤ b.toNat ∧ b.toNat ≤ 126 := by
  have hc := c.toNat_lt
  rw [quote1_nat]
  by_cases h1 : c.toNat = 34 ∨ c.toNat = 92
  · rw [if_pos h1]
    intro b hb
    simp only [List.mem_cons, List.not_mem_nil, or_false] at hb
    rcases hb with rfl | rfl
    · decide
    · omega
  · rw [if_neg h1]
    by_cases h2 : c.toNat = 10
    · rw [if_pos h2]
      intro b hb
      simp only [List.mem_cons, List.not_mem_nil, or_false] at hb
      rcases hb with rfl | rfl <;> decide
    · rw [if_neg h2]
      by_cases h3 : c.toNat < 32 ∨ 126 < c.toNat
      · rw [if_pos h3]
        intro b hb
        simp only [List.mem_cons, List.not_mem_nil, or_false] at hb
        rcases hb with rfl | rfl | rfl | rfl
        · decide
        · decide
        · exact hexB_range ⟨c.toNat / 16, by omega⟩
        · exact hexB_range ⟨c.toNat % 16, by omega⟩
      · rw [if_neg h3]
        intro b hb
        simp only [List.mem_cons, List.not_mem_nil, or_false] at hb
        subst hb
        omega
theorem quoteL_range (l : List UInt8) : ∀ b ∈ quoteL l, 32 ≤ b.toNat ∧ b.toNat ≤ 126 := by
  intro b hb
  unfold quoteL at hb
  rcases List.mem_cons.mp hb with rfl | hb
  · decide
  · rcases List.mem_append.mp hb with hb | hb
    · obtain ⟨c, _, hc⟩ := List.mem_flatMap.mp hb
      exact quote1_range c b hc
    · simp only [List.mem_cons, List.not_mem_nil, or_false] at hb
      subst hb
      decide
theorem byte_eq (a b : UInt8) (h : a.toNat = b.toNat) : a = b := UInt8.toNat_inj.mp h
theorem strL_quote (l : List UInt8) (rest : List UInt8) : ∀ f, l.length < f → strL f (l.flatMap quote1 ++ 34 :: rest) = some (l, (l.flatMap quote1).length + 1) := by
  induction l with
  | nil =>
    intro f hf
    obtain ⟨f, rfl⟩ : ∃ m, f = m + 1 := ⟨f - 1, by simp at hf; omega⟩
    simp [strL]
  | cons c r ih =>
    intro f hf
    obtain ⟨f, rfl⟩ : ∃ m, f = m + 1 := ⟨f - 1, by omega⟩
    have hf2 : r.length < f := by simp only [List.length_cons] at hf; omega
    have ih2 := ih f hf2
    have hc := c.toNat_lt
    simp only [List.flatMap_cons, List.append_assoc]
    rw [quote1_nat]
    by_cases h1 : c.toNat = 34 ∨ c.toNat = 92
    · rw [if_pos h1]
      simp only [List.cons_append, List.nil_append, strL]
      rw [if_neg (by decide), if_pos trivial]
      have hm : markL (c :: (r.flatMap quote1 ++ 34 :: rest)) = some (c, 1) := by
        rcases h1 with h | h
        · obtain rfl : c = 34 := byte_eq c 34 h
          simp [markL]
        · obtain rfl : c = 92 := byte_eq c 92 h
          simp [markL]
      rw [hm]
      simp only [List.drop_succ_cons, List.drop_zero, ih2, Option.map_some]
      simp; omega
    · rw [if_neg h1]
      by_cases h2 : c.toNat = 10
      · rw [if_pos h2]
        obtain rfl : c = 10 := byte_eq c 10 h2
        simp only [List.cons_append, List.nil_append, strL]
        rw [if_neg (by decide), if_pos trivial]
        have hm : markL (110 :: (r.flatMap quote1 ++ 34 :: rest)) = some (10, 1) := by simp [markL]
        rw [hm]
        simp only [List.drop_succ_cons, List.drop_zero, ih2, Option.map_some]
        simp; omega
      · rw [if_neg h2]
        by_cases h3 : c.toNat < 32 ∨ 126 < c.toNat
        · rw [if_pos h3]
          simp only [List.cons_append, List.nil_append, strL]
          rw [if_neg (by decide), if_pos trivial]
          have ha := hexI_hexB ⟨c.toNat / 16, by omega⟩
          have hb := hexI_hexB ⟨c.toNat % 16, by omega⟩
          simp only at ha hb
          have hm : markL (120 :: hexB (c.toNat / 16) :: hexB (c.toNat % 16) :: (r.flatMap quote1 ++ 34 :: rest)) = some (c, 3) := by
            simp only [markL]
            rw [if_neg (by decide), if_neg (by decide), if_neg (by decide), if_pos trivial, ha, hb, if_pos ⟨by omega, by omega⟩]
            have : UInt8.ofNat ((c.toNat / 16) * 16 + c.toNat % 16) = c := by
              apply byte_eq
              rw [UInt8.toNat_ofNat', Nat.mod_eq_of_lt (by omega)]
              omega
            simp only [Int.toNat_natCast, this]
          rw [hm]
          simp only [List.drop_succ_cons, List.drop_zero, ih2, Option.map_some]
          simp; omega
        · rw [if_neg h3]
          simp only [List.cons_append, List.nil_append, strL]
          have n1 : ¬ c = 34 := fun e => h1 (.inl (by rw [e]; rfl))
          have n2 : ¬ c = 92 := fun e => h1 (.inr (by rw [e]; rfl))
          have n3 : ¬ c < 32 := by rw [UInt8.lt_iff_toNat_lt]; show ¬ c.toNat < 32; omega
          have n4 : ¬ c = 127 := fun e => h3 (.inr (by rw [e]; decide))
          rw [if_neg n1, if_neg n2, if_neg n3, if_neg n4, ih2]
          simp
theorem quoteL_inj {l m : List UInt8} (h : quoteL l = quoteL m) : l = m := by
  unfold quoteL at h
  have h' : l.flatMap quote1 ++ 34 :: [] = m.flatMap quote1 ++ 34 :: [] := by simpa using h
  have a := strL_quote l [] (l.length + m.length + 1) (by omega)
  have b := strL_quote m [] (l.length + m.length + 1) (by omega)
  rw [h', b] at a
  simp only [Option.some.injEq, Prod.mk.injEq] at a
  exact a.1.symm

end Go.Proofs.YtngcojabofkbjaaDoor.P
