/- The chapter's example: a = -5; is a Name, a Sign, a Num, a Sign. -/
import Derived.Lib.ItoaMem
import Derived.Test.YtngcojabofkbjaaDoorPx0
import Derived.Test.YtngcojabofkbjaaDoorPx7
import Derived.Test.YtngcojabofkbjaaDoorGLex
import Derived.Test.YtngcojabofkbjaaDoorGNum
import Derived.Test.YtngcojabofkbjaaDoorGQuote
namespace Go.Proofs.YtngcojabofkbjaaDoor.P
open Go.RowKit Go.Proofs.YtngcojabofkbjaaDoorW.PrintWords Go.Proofs.YtngcojabofkbjaaDoorW.PrintLast Go.Proofs.YtngcojabofkbjaaDoorW.PrintMore
attribute [local go_sem] max2_int min2_int max_two min_two max_three min_three max_four min_four   -- for this text's walks alone
set_option linter.unusedVariables false
set_option linter.unusedSimpArgs false

theorem itoa_m5 : Lib.itoa (-5) = [45, 53] := by
  have h := Lib.itoa_neg 5 (by omega)
  have e : Lib.decDigits 5 = [53] := by rw [Lib.decDigits_one (by omega)]; decide
  rw [e] at h
  exact h
theorem parse_m5 : Lib.parseIntB 64 [45, 53] = .ok (-5) := by decide
theorem numOk_m5 : numOk [45, 53] = true := by
  unfold numOk
  rw [parse_m5]
  simp only [itoa_m5, decide_true]
theorem numV_m5 : numV [45, 53] = -5 := by unfold numV; rw [parse_m5]
theorem lex_m5 : lex1 [45, 53, 59] = some (1, [45, 53], -5, 2) := by
  rw [lex1_cons, if_neg (by decide), if_neg (by decide), if_pos (by decide)]
  have e : List.take (runN numU [45, 53, 59]) ([45, 53, 59] : List UInt8) = [45, 53] := by decide
  have e2 : runN numU [45, 53, 59] = 2 := by decide
  rw [e, numOk_m5, numV_m5, if_pos rfl, e2]
theorem allF_ex : allF ⟨#[97, 32, 61, 32, 45, 53, 59]⟩ = ([⟨0, ⟨#[97]⟩, 0, 0⟩, ⟨3, ⟨#[61]⟩, 0, 2⟩, ⟨1, ⟨#[45, 53]⟩, -5, 4⟩, ⟨3, ⟨#[59]⟩, 0, 6⟩], 7, 0) := by
  have e1 : lex1 [97, 32, 61, 32, 45, 53, 59] = some (0, [97], 0, 1) := by decide
  have e2 : lex1 [61, 32, 45, 53, 59] = some (3, [61], 0, 1) := by decide
  have e4 : lex1 [59] = some (3, [59], 0, 1) := by decide
  have s0 : skipN false [97, 32, 61, 32, 45, 53, 59] = 0 := by decide
  have s1 : skipN false [32, 61, 32, 45, 53, 59] = 1 := by decide
  have s2 : skipN false [32, 45, 53, 59] = 1 := by decide
  have s3 : skipN false [59] = 0 := by decide
  have s4 : skipN false [] = 0 := by decide
  have b : bl ⟨#[97, 32, 61, 32, 45, 53, 59]⟩ = [97, 32, 61, 32, 45, 53, 59] := rfl
  have z : (⟨#[97, 32, 61, 32, 45, 53, 59]⟩ : ByteArray).size = 7 := rfl
  unfold allF allL
  rw [z, if_neg (by omega), b, s0]
  simp only [List.length_cons, List.length_nil, List.drop_zero, lexL, e1, e2, e4, lex_m5, s1, s2, s3, s4, List.drop_succ_cons, List.drop_nil, endL, List.nil_append, z]
  rfl
theorem awake_true : trufflelaw06_awake.f = some true := by
  unfold trufflelaw06_awake.f token_All.f
  rw [allF_ex]
  have q : token_Quote.f (⟨#[97]⟩ : ByteArray) = some ⟨#[34, 97, 34]⟩ := by
    unfold token_Quote.f
    rw [if_pos (by decide)]
    rfl
  simp only [Option.bind_some, q, toList_bl, rd_T29]
  rfl

end Go.Proofs.YtngcojabofkbjaaDoor.P
