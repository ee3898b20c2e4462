/- token.Quote: a string's text. -/
import Derived.Test.YtngcojabofkbjaaDoorPx0
import Derived.Test.YtngcojabofkbjaaDoorGSb
namespace Go.Proofs.YtngcojabofkbjaaDoor.P
open Go.RowKit Go.Proofs.YtngcojabofkbjaaDoorW.PrintWords Go.Proofs.YtngcojabofkbjaaDoorW.PrintLast Go.Proofs.YtngcojabofkbjaaDoorW.PrintMore
attribute [local go_sem] max2_int min2_int max_two min_two max_three min_three max_four min_four   -- for this text's walks alone
set_option linter.unusedVariables false
set_option linter.unusedSimpArgs false

def hexB (n : Nat) : UInt8 := if n < 10 then UInt8.ofNat (48 + n) else UInt8.ofNat (87 + n)
def quote1 (c : UInt8) : List UInt8 := if c = 34 ∨ c = 92 then [92, c] else if c = 10 then [92, 110] else if c < 32 ∨ 126 < c then [92, 120, hexB (c.toNat / 16), hexB (c.toNat % 16)] else [c]
def quoteL (l : List UInt8) : List UInt8 := 34 :: (l.flatMap quote1 ++ [34])
def token_Quote.f (a0 : ByteArray) : Option (ByteArray) := if a0.size ≤ 1000000000000 then some ⟨(quoteL a0.data.toList).toArray⟩ else none
theorem quote1_nat (c : UInt8) : quote1 c = if c.toNat = 34 ∨ c.toNat = 92 then [92, c] else if c.toNat = 10 then [92, 110] else if c.toNat < 32 ∨ 126 < c.toNat then [92, 120, hexB (c.toNat / 16), hexB (c.toNat % 16)] else [c] := by
  have e1 : c = 34 ↔ c.toNat = 34 := by rw [← UInt8.toNat_inj]; rfl
  have e2 : c = 92 ↔ c.toNat = 92 := by rw [← UInt8.toNat_inj]; rfl
  have e3 : c = 10 ↔ c.toNat = 10 := by rw [← UInt8.toNat_inj]; rfl
  have e4 : c < 32 ↔ c.toNat < 32 := by rw [UInt8.lt_iff_toNat_lt]; rfl
  have e5 : 126 < c ↔ 126 < c.toNat := by rw [UInt8.lt_iff_toNat_lt]; rfl
  unfold quote1
  simp only [e1, e2, e3, e4, e5]
theorem hex_at (k : Nat) (h : k < (⟨#[48, 49, 50, 51, 52, 53, 54, 55, 56, 57, 97, 98, 99, 100, 101, 102]⟩ : ByteArray).size) : (⟨#[48, 49, 50, 51, 52, 53, 54, 55, 56, 57, 97, 98, 99, 100, 101, 102]⟩ : ByteArray)[k] = hexB k := by
  have h16 : k < 16 := h
  have all : ∀ j : Fin 16, (⟨#[48, 49, 50, 51, 52, 53, 54, 55, 56, 57, 97, 98, 99, 100, 101, 102]⟩ : ByteArray)[j.val]'(j.isLt) = hexB j.val := by decide
  exact all ⟨k, h16⟩
theorem quote1_length (c : UInt8) : (quote1 c).length ≤ 4 := by
  unfold quote1; repeat' split
  all_goals simp
theorem flat_length (l : List UInt8) : (l.flatMap quote1).length ≤ 4 * l.length := by
  induction l with
  | nil => simp
  | cons c l ih => have := quote1_length c; simp only [List.flatMap_cons, List.length_append, List.length_cons]; omega
theorem take_snoc (s : ByteArray) (k : Nat) (h : k < s.size) : s.data.toList.take (k + 1) = s.data.toList.take k ++ [s[k]] := by
  rw [List.take_succ_eq_append_getElem (by simpa using h)]; rfl
def qAcc (s : ByteArray) (i : Nat) : List UInt8 := 34 :: (s.data.toList.take i).flatMap quote1
theorem qAcc_succ (s : ByteArray) (i : Nat) (h : i < s.size) : qAcc s (i + 1) = qAcc s i ++ quote1 s[i] := by
  unfold qAcc; rw [take_snoc s i h]; simp
theorem qAcc_length (s : ByteArray) (i : Nat) (h : i ≤ s.size) : (qAcc s i).length ≤ 4 * i + 1 := by
  unfold qAcc
  have h1 := flat_length (s.data.toList.take i)
  have h2 : (s.data.toList.take i).length ≤ i := List.length_take_le _ _
  simp only [List.length_cons]; omega
set_option maxHeartbeats 4000000 in
set_option maxRecDepth 100000 in
theorem token_Quote.calls (a0 : ByteArray) (r : ByteArray) (w : World) (h : token_Quote.f a0 = some r) :
    Calls Tryd.prog 19 #[.string a0] w fun e w' => e = .returned (.string r) ∧ Below w.heap.size w w' := by
  unfold token_Quote.f at h
  split at h
  · rename_i hs
    obtain rfl := Option.some.inj h
    clear h
    have HF := Aside0.mk (Lib.fresh_isBuilder 65 5 w)
    have HB := Aside0.mk (below_alloc (Below.refl w.heap.size w) (.cells #[.pointer none, .slice none 0 0] 65))
    go_enter Tryd.func19, Tryd.ntmps19
    go_wp2_with (go_at_call 41; refine (sb_WriteByte _ _ _ _ _ HF.out ?s1 ?s2).mono ?_; (case s1 => simp); (case s2 => exact HB.out.size); rintro e w1 ⟨rfl, h1, hb⟩; have n0_ := Aside0.mk h1; have n1_ := Aside0.mk (HB.out.trans hb); clear HF HB hb h1; have HD := n0_; have HB := n1_; clear n0_ n1_)
    have hl0 := qAcc_length a0 0 (by omega)
    go_loopg [9] a0.size (fun n v9 W => ∃ i : Nat, v9 = .int .i64 i ∧ Aside0 (i + n = a0.size) ∧ Aside0 (Lib.BuilderAt 65 5 w.heap.size w.heap.size (.pointer (some ⟨w.heap.size, 0, none⟩)) (Lib.byteCells (qAcc a0 i)) W) ∧ Aside0 (Below w.heap.size w W))
    case atStart => exact ⟨0, rfl, ⟨by omega⟩, ⟨by simpa [qAcc, Lib.byteCells] using HD.out⟩, ⟨HB.out⟩⟩
    case round =>
      clear HD HB hl0
      obtain ⟨i, rfl, HN, HD, HB⟩ := hrel
      have hle : i ≤ a0.size := by have := HN.out; omega
      have hl := qAcc_length a0 i hle
      by_cases hlt : i < a0.size
      · have HS := Aside0.mk (qAcc_succ a0 i hlt)
        have hc := Aside0.mk (a0[i].toNat_lt)
        have hbd : (a0[i].toNat : Int) ≤ 255 := by have := hc.out; omega
        cases gk with
        | zero => exact absurd HN.out (by omega)
        | succ k1 =>
          by_cases c34 : a0[i].toNat = 34
          · have b1 : ((a0[i].toNat : Int) == 34) = true := by simp [c34]
            have HQ := Aside0.mk (show quote1 a0[i] = [92, a0[i]] by rw [quote1_nat, if_pos (.inl c34)])
            clear c34
            go_wp2_with (first | (go_at_call 41; refine (sb_WriteByte _ _ _ _ _ (.inr HD.out) ?s1 ?s2).mono ?_; (case s1 => simp [Lib.byteCells, Lib.strCells]; omega); (case s2 => exact HB.out.size); rintro e w2 ⟨rfl, h1, hb⟩; have n0_ := Aside0.mk h1; have n1_ := Aside0.mk (HB.out.trans hb); clear HD HB hb h1; have HD := n0_; have HB := n1_; clear n0_ n1_) | (go_at_call 42; refine (sb_WriteString _ _ _ _ _ (.inr HD.out) ?s1 ?s2).mono ?_; (case s1 => rw [Lib.byteCells_length]; show _ + 2 ≤ _; omega); (case s2 => exact HB.out.size); rintro e w2 ⟨rfl, h1, hb⟩; have n0_ := Aside0.mk h1; have n1_ := Aside0.mk (HB.out.trans hb); clear HD HB hb h1; have HD := n0_; have HB := n1_; clear n0_ n1_))
            go_roundg k1
            case measure => omega
            case rel => exact ⟨i + 1, by go_num, ⟨by have := HN.out; omega⟩, ⟨by rw [HS.out, HQ.out]; simpa [Lib.byteCells, Lib.strCells] using HD.out⟩, ⟨HB.out⟩⟩
          · by_cases c92 : a0[i].toNat = 92
            · have b1 : ((a0[i].toNat : Int) == 34) = false := by rw [beq_eq_false_iff_ne]; omega
              have b2 : ((a0[i].toNat : Int) == 92) = true := by simp [c92]
              have HQ := Aside0.mk (show quote1 a0[i] = [92, a0[i]] by rw [quote1_nat, if_pos (.inr c92)])
              clear c34 c92
              go_wp2_with (first | (go_at_call 41; refine (sb_WriteByte _ _ _ _ _ (.inr HD.out) ?s1 ?s2).mono ?_; (case s1 => simp [Lib.byteCells, Lib.strCells]; omega); (case s2 => exact HB.out.size); rintro e w2 ⟨rfl, h1, hb⟩; have n0_ := Aside0.mk h1; have n1_ := Aside0.mk (HB.out.trans hb); clear HD HB hb h1; have HD := n0_; have HB := n1_; clear n0_ n1_) | (go_at_call 42; refine (sb_WriteString _ _ _ _ _ (.inr HD.out) ?s1 ?s2).mono ?_; (case s1 => rw [Lib.byteCells_length]; show _ + 2 ≤ _; omega); (case s2 => exact HB.out.size); rintro e w2 ⟨rfl, h1, hb⟩; have n0_ := Aside0.mk h1; have n1_ := Aside0.mk (HB.out.trans hb); clear HD HB hb h1; have HD := n0_; have HB := n1_; clear n0_ n1_))
              go_roundg k1
              case measure => omega
              case rel => exact ⟨i + 1, by go_num, ⟨by have := HN.out; omega⟩, ⟨by rw [HS.out, HQ.out]; simpa [Lib.byteCells, Lib.strCells] using HD.out⟩, ⟨HB.out⟩⟩
            · by_cases c10 : a0[i].toNat = 10
              · have b1 : ((a0[i].toNat : Int) == 34) = false := by rw [beq_eq_false_iff_ne]; omega
                have b2 : ((a0[i].toNat : Int) == 92) = false := by rw [beq_eq_false_iff_ne]; omega
                have b3 : ((a0[i].toNat : Int) == 10) = true := by simp [c10]
                have HQ := Aside0.mk (show quote1 a0[i] = [92, 110] by rw [quote1_nat, if_neg (by omega), if_pos c10])
                clear c34 c92 c10
                go_wp2_with (first | (go_at_call 41; refine (sb_WriteByte _ _ _ _ _ (.inr HD.out) ?s1 ?s2).mono ?_; (case s1 => simp [Lib.byteCells, Lib.strCells]; omega); (case s2 => exact HB.out.size); rintro e w2 ⟨rfl, h1, hb⟩; have n0_ := Aside0.mk h1; have n1_ := Aside0.mk (HB.out.trans hb); clear HD HB hb h1; have HD := n0_; have HB := n1_; clear n0_ n1_) | (go_at_call 42; refine (sb_WriteString _ _ _ _ _ (.inr HD.out) ?s1 ?s2).mono ?_; (case s1 => rw [Lib.byteCells_length]; show _ + 2 ≤ _; omega); (case s2 => exact HB.out.size); rintro e w2 ⟨rfl, h1, hb⟩; have n0_ := Aside0.mk h1; have n1_ := Aside0.mk (HB.out.trans hb); clear HD HB hb h1; have HD := n0_; have HB := n1_; clear n0_ n1_))
                go_roundg k1
                case measure => omega
                case rel => exact ⟨i + 1, by go_num, ⟨by have := HN.out; omega⟩, ⟨by rw [HS.out, HQ.out]; simpa [Lib.byteCells, Lib.strCells] using HD.out⟩, ⟨HB.out⟩⟩
              · have b1 : ((a0[i].toNat : Int) == 34) = false := by rw [beq_eq_false_iff_ne]; omega
                have b2 : ((a0[i].toNat : Int) == 92) = false := by rw [beq_eq_false_iff_ne]; omega
                have b3 : ((a0[i].toNat : Int) == 10) = false := by rw [beq_eq_false_iff_ne]; omega
                by_cases c32 : a0[i].toNat < 32
                · have b4 : decide ((a0[i].toNat : Int) < 32) = true := decide_eq_true (by omega)
                  have HQ := Aside0.mk (show quote1 a0[i] = [92, 120, hexB (a0[i].toNat / 16), hexB (a0[i].toNat % 16)] by rw [quote1_nat, if_neg (by omega), if_neg c10, if_pos (.inl c32)])
                  clear c34 c92 c10 c32
                  go_wp2_with (first | (go_at_call 41; refine (sb_WriteByte _ _ _ _ _ (.inr HD.out) ?s1 ?s2).mono ?_; (case s1 => simp [Lib.byteCells, Lib.strCells]; omega); (case s2 => exact HB.out.size); rintro e w2 ⟨rfl, h1, hb⟩; have n0_ := Aside0.mk h1; have n1_ := Aside0.mk (HB.out.trans hb); clear HD HB hb h1; have HD := n0_; have HB := n1_; clear n0_ n1_) | (go_at_call 42; refine (sb_WriteString _ _ _ _ _ (.inr HD.out) ?s1 ?s2).mono ?_; (case s1 => rw [Lib.byteCells_length]; show _ + 2 ≤ _; omega); (case s2 => exact HB.out.size); rintro e w2 ⟨rfl, h1, hb⟩; have n0_ := Aside0.mk h1; have n1_ := Aside0.mk (HB.out.trans hb); clear HD HB hb h1; have HD := n0_; have HB := n1_; clear n0_ n1_))
                  go_roundg k1
                  case measure => omega
                  case rel => exact ⟨i + 1, by go_num, ⟨by have := HN.out; omega⟩, ⟨by rw [HS.out, HQ.out]; have hd := HD.out; simp only [hex_at] at hd; simpa [Lib.byteCells, Lib.strCells] using hd⟩, ⟨HB.out⟩⟩
                · have b4 : decide ((a0[i].toNat : Int) < 32) = false := decide_eq_false (by omega)
                  by_cases c126 : 126 < a0[i].toNat
                  · have b5 : decide (126 < (a0[i].toNat : Int)) = true := decide_eq_true (by omega)
                    have HQ := Aside0.mk (show quote1 a0[i] = [92, 120, hexB (a0[i].toNat / 16), hexB (a0[i].toNat % 16)] by rw [quote1_nat, if_neg (by omega), if_neg c10, if_pos (.inr c126)])
                    clear c34 c92 c10 c32 c126
                    go_wp2_with (first | (go_at_call 41; refine (sb_WriteByte _ _ _ _ _ (.inr HD.out) ?s1 ?s2).mono ?_; (case s1 => simp [Lib.byteCells, Lib.strCells]; omega); (case s2 => exact HB.out.size); rintro e w2 ⟨rfl, h1, hb⟩; have n0_ := Aside0.mk h1; have n1_ := Aside0.mk (HB.out.trans hb); clear HD HB hb h1; have HD := n0_; have HB := n1_; clear n0_ n1_) | (go_at_call 42; refine (sb_WriteString _ _ _ _ _ (.inr HD.out) ?s1 ?s2).mono ?_; (case s1 => rw [Lib.byteCells_length]; show _ + 2 ≤ _; omega); (case s2 => exact HB.out.size); rintro e w2 ⟨rfl, h1, hb⟩; have n0_ := Aside0.mk h1; have n1_ := Aside0.mk (HB.out.trans hb); clear HD HB hb h1; have HD := n0_; have HB := n1_; clear n0_ n1_))
                    go_roundg k1
                    case measure => omega
                    case rel => exact ⟨i + 1, by go_num, ⟨by have := HN.out; omega⟩, ⟨by rw [HS.out, HQ.out]; have hd := HD.out; simp only [hex_at] at hd; simpa [Lib.byteCells, Lib.strCells] using hd⟩, ⟨HB.out⟩⟩
                  · have b5 : decide (126 < (a0[i].toNat : Int)) = false := decide_eq_false (by omega)
                    have HQ := Aside0.mk (show quote1 a0[i] = [a0[i]] by rw [quote1_nat, if_neg (by omega), if_neg c10, if_neg (by omega)])
                    clear c34 c92 c10 c32 c126
                    go_wp2_with (first | (go_at_call 41; refine (sb_WriteByte _ _ _ _ _ (.inr HD.out) ?s1 ?s2).mono ?_; (case s1 => simp [Lib.byteCells, Lib.strCells]; omega); (case s2 => exact HB.out.size); rintro e w2 ⟨rfl, h1, hb⟩; have n0_ := Aside0.mk h1; have n1_ := Aside0.mk (HB.out.trans hb); clear HD HB hb h1; have HD := n0_; have HB := n1_; clear n0_ n1_) | (go_at_call 42; refine (sb_WriteString _ _ _ _ _ (.inr HD.out) ?s1 ?s2).mono ?_; (case s1 => rw [Lib.byteCells_length]; show _ + 2 ≤ _; omega); (case s2 => exact HB.out.size); rintro e w2 ⟨rfl, h1, hb⟩; have n0_ := Aside0.mk h1; have n1_ := Aside0.mk (HB.out.trans hb); clear HD HB hb h1; have HD := n0_; have HB := n1_; clear n0_ n1_))
                    go_roundg k1
                    case measure => omega
                    case rel => exact ⟨i + 1, by go_num, ⟨by have := HN.out; omega⟩, ⟨by rw [HS.out, HQ.out]; simpa [Lib.byteCells, Lib.strCells] using HD.out⟩, ⟨HB.out⟩⟩
      · obtain rfl : i = a0.size := by omega
        have HD2 := Aside0.mk (show qAcc a0 a0.size ++ [34] = quoteL a0.data.toList by unfold qAcc quoteL; rw [List.take_of_length_le (by simp)]; rfl)
        have hd : decide ((a0.size : Int) < (a0.size : Int)) = false := decide_eq_false (by omega)
        go_wp2_with (first | (go_at_call 41; refine (sb_WriteByte _ _ _ _ _ (.inr HD.out) ?s1 ?s2).mono ?_; (case s1 => simp [Lib.byteCells, Lib.strCells]; omega); (case s2 => exact HB.out.size); rintro e w2 ⟨rfl, h1, hb⟩; have n0_ := Aside0.mk h1; have n1_ := Aside0.mk (HB.out.trans hb); clear HD HB hb h1; have HD := n0_; have HB := n1_; clear n0_ n1_) | (go_at_call 43; refine (Tryd.Builder_String_any _ _ (quoteL a0.data.toList) _ (.inr ?s1) HB.out.size).mono ?_; (case s1 => have := HD.out; rw [← HD2.out, Lib.byteCells_append]; exact this); rintro e w3 ⟨rfl, hb⟩))
        go_ret
        exact ⟨rfl, HB.out.trans hb⟩
  · cases h

end Go.Proofs.YtngcojabofkbjaaDoor.P
