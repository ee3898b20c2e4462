/- token.Digits: a number's text; by the shelf's contract on strconv.FormatInt at base 10. -/
import Derived.Test.YtngcojabofkbjaaDoorGShelf
import Derived.Lib.AppendIntMem
import Derived.Test.YtngcojabofkbjaaDoorPx0
import Derived.Test.YtngcojabofkbjaaDoorGGInv
namespace Go.Proofs.YtngcojabofkbjaaDoor.P
open Go.RowKit Go.Proofs.YtngcojabofkbjaaDoorW.PrintWords Go.Proofs.YtngcojabofkbjaaDoorW.PrintLast Go.Proofs.YtngcojabofkbjaaDoorW.PrintMore
attribute [local go_sem] max2_int min2_int max_two min_two max_three min_three max_four min_four   -- for this text's walks alone
set_option linter.unusedVariables false
set_option linter.unusedSimpArgs false

def token_Digits.f (a0 : Int) : Option (ByteArray) := if -9223372036854775808 ≤ a0 then (if a0 ≤ 9223372036854775807 then some ⟨(Lib.itoa a0).toArray⟩ else none) else none
theorem format_any (n : Int) (h0 : -9223372036854775808 ≤ n) (h1 : n ≤ 9223372036854775807) (w : World) (hG : GInv w) :
    Calls Tryd.prog 44 #[.int .i64 n, .int .i64 10] w fun e w' => e = .returned (.string ⟨(Lib.itoa n).toArray⟩) ∧ Below w.heap.size w w' := by
  refine (Tryd.strconv_FormatInt_10 n h0 h1 w hG.tab).mono ?_
  rintro e w' ⟨rfl, k, os, rfl⟩
  exact ⟨rfl, Lib.below_grow _ w (Nat.le_refl _) k os⟩
set_option maxHeartbeats 1000000 in
theorem token_Digits.calls (a0 : Int) (r : ByteArray) (w : World) (hG : GInv w) (h : token_Digits.f a0 = some r) :
    Calls Tryd.prog 21 #[.int .i64 a0] w fun e w' => e = .returned (.string r) ∧ Below w.heap.size w w' := by
  unfold token_Digits.f at h
  split at h
  · rename_i h0
    split at h
    · rename_i h1
      obtain rfl := Option.some.inj h
      have H := Aside0.mk (fun W => format_any a0 h0 h1 W)
      clear h0 h1 h
      generalize (⟨(Lib.itoa a0).toArray⟩ : ByteArray) = r at *
      go_enter Tryd.func21, Tryd.ntmps21
      go_wp2_with (go_at_call 44; refine (H.out _ hG).mono ?_; rintro e w' ⟨rfl, hb⟩)
      go_ret
      exact ⟨rfl, hb⟩
    · cases h
  · cases h

end Go.Proofs.YtngcojabofkbjaaDoor.P
