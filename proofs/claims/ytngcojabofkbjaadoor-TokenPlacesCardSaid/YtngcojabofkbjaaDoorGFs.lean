/- What Quote and Digits are, within their bounds. -/
import Derived.Lib.ItoaMem
import Derived.Test.YtngcojabofkbjaaDoorPx0
import Derived.Test.YtngcojabofkbjaaDoorGDig
import Derived.Test.YtngcojabofkbjaaDoorGDigits
import Derived.Test.YtngcojabofkbjaaDoorGLex
import Derived.Test.YtngcojabofkbjaaDoorGQuote
namespace Go.Proofs.YtngcojabofkbjaaDoor.P
open Go.RowKit Go.Proofs.YtngcojabofkbjaaDoorW.PrintWords Go.Proofs.YtngcojabofkbjaaDoorW.PrintLast Go.Proofs.YtngcojabofkbjaaDoorW.PrintMore
attribute [local go_sem] max2_int min2_int max_two min_two max_three min_three max_four min_four   -- for this text's walks alone
set_option linter.unusedVariables false
set_option linter.unusedSimpArgs false

theorem quoteF (a : ByteArray) (h : a.size ≤ 1000000000000) : token_Quote.f a = some ⟨(quoteL (bl a)).toArray⟩ := by
  unfold token_Quote.f
  rw [if_pos h]
theorem digitsF (n : Int) (h : (Lit.int .i64 n).wf = true) : token_Digits.f n = some ⟨(Lib.itoa n).toArray⟩ := by
  unfold token_Digits.f
  rw [if_pos (wf_range h).1, if_pos (wf_range h).2]
theorem blMk (l : List UInt8) : bl ⟨l.toArray⟩ = l := rfl

end Go.Proofs.YtngcojabofkbjaaDoor.P
