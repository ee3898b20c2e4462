/- Same of a list and itself. -/
import Derived.Test.YtngcojabofkbjaaDoorPx0
import Derived.Test.YtngcojabofkbjaaDoorPx7
import Derived.Test.YtngcojabofkbjaaDoorGLex
namespace Go.Proofs.YtngcojabofkbjaaDoor.P
open Go.RowKit Go.Proofs.YtngcojabofkbjaaDoorW.PrintWords Go.Proofs.YtngcojabofkbjaaDoorW.PrintLast Go.Proofs.YtngcojabofkbjaaDoorW.PrintMore
attribute [local go_sem] max2_int min2_int max_two min_two max_three min_three max_four min_four   -- for this text's walks alone
set_option linter.unusedVariables false
set_option linter.unusedSimpArgs false

theorem same_refl (xs : List TokS) (hx : xs.length ≤ 1000000) : ∀ d k i : Nat, i ≤ xs.length → xs.length - i ≤ d → d < k → truffleref06_Same.l0 k xs xs i = some true := by
  intro d
  induction d with
  | zero =>
    intro k i hi hd hk
    obtain ⟨k, rfl⟩ : ∃ m, k = m + 1 := ⟨k - 1, by omega⟩
    simp only [truffleref06_Same.l0]
    rw [if_neg (by omega)]
  | succ d ih =>
    intro k i hi hd hk
    obtain ⟨k, rfl⟩ : ∃ m, k = m + 1 := ⟨k - 1, by omega⟩
    simp only [truffleref06_Same.l0]
    by_cases hlt : i < xs.length
    · rw [if_pos (by omega), if_pos (by omega), if_pos (by omega)]
      simp only [beq_self_eq_true, Bool.not_true, Bool.or_false]
      rw [if_neg (by decide), wrap_small _ (by omega) (by omega)]
      exact ih k (i + 1) (by omega) (by omega) (by omega)
    · rw [if_neg (by omega)]
theorem same_self (xs : List TokS) (hx : xs.length ≤ 1000000) (k : Nat) (hk : xs.length < k) : truffleref06_Same.f k xs xs = some true := by
  unfold truffleref06_Same.f
  rw [if_pos rfl]
  exact same_refl xs hx xs.length k 0 (by omega) (by omega) hk

end Go.Proofs.YtngcojabofkbjaaDoor.P
