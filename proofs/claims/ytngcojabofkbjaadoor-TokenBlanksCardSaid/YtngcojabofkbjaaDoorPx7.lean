-- PRINTED by a program of this session (wip/mp.py over the kit's print) out of the translation. Not trusted: Lean checks it.
import Derived.Test.YtngcojabofkbjaaDoorPx0
import Derived.Test.YtngcojabofkbjaaDoorPx1
import Derived.Test.YtngcojabofkbjaaDoorGGInv
import Derived.Test.YtngcojabofkbjaaDoorGLex
import Derived.Test.YtngcojabofkbjaaDoorGQuote
namespace Go.Proofs.YtngcojabofkbjaaDoor.P
open Go.RowKit Go.Proofs.YtngcojabofkbjaaDoorW.PrintWords Go.Proofs.YtngcojabofkbjaaDoorW.PrintLast Go.Proofs.YtngcojabofkbjaaDoorW.PrintMore
attribute [local go_sem] max2_int min2_int max_two min_two max_three min_three max_four min_four   -- for this text's walks alone
set_option linter.unusedVariables false
set_option linter.unusedSimpArgs false

attribute [local go_sem high] eqA29
/-! ### trufflelaw06_awake: function 15 -/
def trufflelaw06_awake.f  : Option (Bool) := (token_All.f (⟨#[97, 32, 61, 32, 45, 53, 59]⟩ : ByteArray)).bind fun bt138 => (if bt138.2.2 = 0 then (if bt138.2.1 = 7 then (if (bt138.1.length : Int) = 4 then (if 0 < (bt138.1.length : Int) then (if ((rd_T29 bt138.1 0).f0) = 0 then (if 1 < (bt138.1.length : Int) then (if ((rd_T29 bt138.1 1).f1).toList = ([61] : List UInt8) then (if 2 < (bt138.1.length : Int) then (if ((rd_T29 bt138.1 2).f2) = (-5) then (if 3 < (bt138.1.length : Int) then (if ((rd_T29 bt138.1 3).f0) = 3 then ((token_Quote.f (⟨#[97]⟩ : ByteArray)).bind fun t147 => (some (t147.toList == ([34, 97, 34] : List UInt8)))) else (some false)) else (none)) else (some false)) else (none)) else (some false)) else (none)) else (some false)) else (none)) else (some false)) else (some false)) else (some false))
set_option maxHeartbeats 8000000 in
set_option maxRecDepth 100000 in
theorem trufflelaw06_awake.calls  (r : Bool) (w : World) (hG : GInv w) (h : trufflelaw06_awake.f  = some r) :
    Calls Tryd.prog 15 #[] w fun e w' => e = .returned (.bool r) ∧ Below w.heap.size w w' := by
  have HB := Aside0.mk (Below.refl w.heap.size w)
  have H : ((token_All.f (⟨#[97, 32, 61, 32, 45, 53, 59]⟩ : ByteArray)).bind fun bt138 => (if bt138.2.2 = 0 then (if bt138.2.1 = 7 then (if (bt138.1.length : Int) = 4 then (if 0 < (bt138.1.length : Int) then (if ((rd_T29 bt138.1 0).f0) = 0 then (if 1 < (bt138.1.length : Int) then (if ((rd_T29 bt138.1 1).f1).toList = ([61] : List UInt8) then (if 2 < (bt138.1.length : Int) then (if ((rd_T29 bt138.1 2).f2) = (-5) then (if 3 < (bt138.1.length : Int) then (if ((rd_T29 bt138.1 3).f0) = 3 then ((token_Quote.f (⟨#[97]⟩ : ByteArray)).bind fun t147 => (some (t147.toList == ([34, 97, 34] : List UInt8)))) else (some false)) else (none)) else (some false)) else (none)) else (some false)) else (none)) else (some false)) else (none)) else (some false)) else (some false)) else (some false))) = some r := h
  clear h
  replace H := Option.bind_eq_some_iff.mp H
  obtain ⟨⟨t138, t139, t140⟩, A10, H⟩ := H
  replace H : (if t140 = 0 then (if t139 = 7 then (if (t138.length : Int) = 4 then (if 0 < (t138.length : Int) then (if ((rd_T29 t138 0).f0) = 0 then (if 1 < (t138.length : Int) then (if ((rd_T29 t138 1).f1).toList = ([61] : List UInt8) then (if 2 < (t138.length : Int) then (if ((rd_T29 t138 2).f2) = (-5) then (if 3 < (t138.length : Int) then (if ((rd_T29 t138 3).f0) = 3 then ((token_Quote.f (⟨#[97]⟩ : ByteArray)).bind fun t147 => (some (t147.toList == ([34, 97, 34] : List UInt8)))) else (some false)) else (none)) else (some false)) else (none)) else (some false)) else (none)) else (some false)) else (none)) else (some false)) else (some false)) else (some false)) = some r := H
  have A1 := Aside0.mk A10
  clear A10
  by_cases c2 : t140 = 0
  · rw [if_pos c2] at H
    have c2b0 : (t140 == 0) = true := beq_iff_eq.mpr c2
    have c2b1 : (t140 != 0) = false := bne_eq_false_iff_eq.mpr c2
    clear c2
    by_cases c3 : t139 = 7
    · rw [if_pos c3] at H
      have c3b0 : (t139 == 7) = true := beq_iff_eq.mpr c3
      have c3b1 : (t139 != 7) = false := bne_eq_false_iff_eq.mpr c3
      clear c3
      by_cases c4 : (t138.length : Int) = 4
      · rw [if_pos c4] at H
        have c4b0 : ((t138.length : Int) == 4) = true := beq_iff_eq.mpr c4
        have c4b1 : ((t138.length : Int) != 4) = false := bne_eq_false_iff_eq.mpr c4
        clear c4
        by_cases c5 : 0 < (t138.length : Int)
        · rw [if_pos c5] at H
          have c5b0 : decide (0 < (t138.length : Int)) = true := decide_eq_true c5
          have c5b1 : decide (0 < t138.length) = true := decide_eq_true (by omega)
          clear c5
          by_cases c6 : ((rd_T29 t138 0).f0) = 0
          · rw [if_pos c6] at H
            have c6b0 : (((rd_T29 t138 0).f0) == 0) = true := beq_iff_eq.mpr c6
            have c6b1 : (((rd_T29 t138 0).f0) != 0) = false := bne_eq_false_iff_eq.mpr c6
            clear c6
            by_cases c7 : 1 < (t138.length : Int)
            · rw [if_pos c7] at H
              have c7b0 : decide (1 < (t138.length : Int)) = true := decide_eq_true c7
              have c7b1 : decide (1 < t138.length) = true := decide_eq_true (by omega)
              clear c7
              by_cases c8 : ((rd_T29 t138 1).f1).toList = ([61] : List UInt8)
              · rw [if_pos c8] at H
                have c8b0 : (((rd_T29 t138 1).f1).toList == ([61] : List UInt8)) = true := beq_iff_eq.mpr c8
                have c8b1 : (((rd_T29 t138 1).f1).toList != ([61] : List UInt8)) = false := bne_eq_false_iff_eq.mpr c8
                clear c8
                by_cases c9 : 2 < (t138.length : Int)
                · rw [if_pos c9] at H
                  have c9b0 : decide (2 < (t138.length : Int)) = true := decide_eq_true c9
                  have c9b1 : decide (2 < t138.length) = true := decide_eq_true (by omega)
                  clear c9
                  by_cases c10 : ((rd_T29 t138 2).f2) = (-5)
                  · rw [if_pos c10] at H
                    have c10b0 : (((rd_T29 t138 2).f2) == (-5)) = true := beq_iff_eq.mpr c10
                    have c10b1 : (((rd_T29 t138 2).f2) != (-5)) = false := bne_eq_false_iff_eq.mpr c10
                    clear c10
                    by_cases c11 : 3 < (t138.length : Int)
                    · rw [if_pos c11] at H
                      have c11b0 : decide (3 < (t138.length : Int)) = true := decide_eq_true c11
                      have c11b1 : decide (3 < t138.length) = true := decide_eq_true (by omega)
                      clear c11
                      by_cases c12 : ((rd_T29 t138 3).f0) = 3
                      · rw [if_pos c12] at H
                        have c12b0 : (((rd_T29 t138 3).f0) == 3) = true := beq_iff_eq.mpr c12
                        have c12b1 : (((rd_T29 t138 3).f0) != 3) = false := bne_eq_false_iff_eq.mpr c12
                        clear c12
                        replace H := Option.bind_eq_some_iff.mp H
                        obtain ⟨t147, A130, H⟩ := H
                        replace H : (some (t147.toList == ([34, 97, 34] : List UInt8))) = some r := H
                        have A13 := Aside0.mk A130
                        clear A130
                        obtain rfl := Option.some.inj H
                        go_enter Tryd.func15, Tryd.ntmps15
                        go_wp2_with (first | ((with_reducible refine gate_callee (f := 16) rfl ?_); refine goesL_ (some 5) rfl rfl Tryd.func16 (by kernel_rfl) rfl #[.string (⟨#[97, 32, 61, 32, 45, 53, 59]⟩ : ByteArray)] rfl (by (try simp only [List.map_toArray, List.map_cons, List.map_nil]); first | done | rfl | (simp only [List.length_drop, List.length_take]; rfl)) ?_; (with_reducible refine (token_All.calls (⟨#[97, 32, 61, 32, 45, 53, 59]⟩ : ByteArray) t138 t139 t140 _ ?side1 A1.out).mono ?_); (case side1 => exact hG.below (by repeat (first | (with_reducible first | exact HB.out | apply below_alloc | apply pw_below_drewN | apply below_drew1) | exact HB.out))); rintro e w14 ⟨v141, rfl, ho0, hb⟩; refine ⟨_, rfl, ?_⟩; have n0_ := Aside0.mk (Kd.R_lower ho0 (below_size (by repeat (first | (with_reducible first | exact HB.out | apply below_alloc | apply pw_below_drewN | apply below_drew1) | exact HB.out)))); have n1_ := Aside0.mk (below_step (by repeat (first | (with_reducible first | exact HB.out | apply below_alloc | apply pw_below_drewN | apply below_drew1) | exact HB.out)) hb); clear HB; have HO142 := n0_; have HB := n1_; clear n0_ n1_; (try clear hb); (try clear hb2); (try clear hk); (try clear hi); (try clear ho0); obtain ⟨Ao15, co15, eo15⟩ := Kd.R_slice HO142.out; subst eo15; have p143 : 0 ≤ (0 : Int) := (by omega); have q143 : 0 < (t138.length : Int) := of_decide_eq_true (by first | (with_reducible assumption) | assumption); obtain ⟨ad143, e143, hx143_0, hx143_1, hx143_2, hx143_3⟩ := at_T29 (Kd.R_reads' HO142.out).2.2 0 p143 q143; cases e143; have qi143 : (0 < t138.length) = True := eq_true (by omega); (try rw [show ((0 : Int)).toNat = 0 from rfl] at hx143_0); (try rw [show 0 * 4 = 0 from rfl] at hx143_0); (try rw [Addr.add_zero'] at hx143_0); (try rw [show ((0 : Int)).toNat = 0 from rfl] at hx143_1); (try rw [show 0 * 4 = 0 from rfl] at hx143_1); (try rw [Addr.add_zero'] at hx143_1); (try rw [show ((0 : Int)).toNat = 0 from rfl] at hx143_2); (try rw [show 0 * 4 = 0 from rfl] at hx143_2); (try rw [Addr.add_zero'] at hx143_2); (try rw [show ((0 : Int)).toNat = 0 from rfl] at hx143_3); (try rw [show 0 * 4 = 0 from rfl] at hx143_3); (try rw [Addr.add_zero'] at hx143_3); replace p143 := eq_true p143; replace q143 := eq_true q143; have p144 : 0 ≤ (1 : Int) := (by omega); have q144 : 1 < (t138.length : Int) := of_decide_eq_true (by first | (with_reducible assumption) | assumption); obtain ⟨ad144, e144, hx144_0, hx144_1, hx144_2, hx144_3⟩ := at_T29 (Kd.R_reads' HO142.out).2.2 1 p144 q144; obtain rfl : ad143 = ad144 := (by injection e144); (try simp only [show (1 : Int).toNat = 1 from rfl, Nat.reduceMul, Nat.reduceEqDiff, Go.Addr.add, ↓reduceIte] at hx144_0); (try simp only [show (1 : Int).toNat = 1 from rfl, Nat.reduceMul, Nat.reduceEqDiff, Go.Addr.add, ↓reduceIte] at hx144_1); (try simp only [show (1 : Int).toNat = 1 from rfl, Nat.reduceMul, Nat.reduceEqDiff, Go.Addr.add, ↓reduceIte] at hx144_2); (try simp only [show (1 : Int).toNat = 1 from rfl, Nat.reduceMul, Nat.reduceEqDiff, Go.Addr.add, ↓reduceIte] at hx144_3); have qi144 : (1 < t138.length) = True := eq_true (by omega); (try rw [show ((1 : Int)).toNat = 1 from rfl] at hx144_0); (try rw [show 1 * 4 = 4 from rfl] at hx144_0); (try rw [show ((1 : Int)).toNat = 1 from rfl] at hx144_1); (try rw [show 1 * 4 = 4 from rfl] at hx144_1); (try rw [show ((1 : Int)).toNat = 1 from rfl] at hx144_2); (try rw [show 1 * 4 = 4 from rfl] at hx144_2); (try rw [show ((1 : Int)).toNat = 1 from rfl] at hx144_3); (try rw [show 1 * 4 = 4 from rfl] at hx144_3); replace p144 := eq_true p144; replace q144 := eq_true q144; have p145 : 0 ≤ (2 : Int) := (by omega); have q145 : 2 < (t138.length : Int) := of_decide_eq_true (by first | (with_reducible assumption) | assumption); obtain ⟨ad145, e145, hx145_0, hx145_1, hx145_2, hx145_3⟩ := at_T29 (Kd.R_reads' HO142.out).2.2 2 p145 q145; obtain rfl : ad143 = ad145 := (by injection e145); (try simp only [show (2 : Int).toNat = 2 from rfl, Nat.reduceMul, Nat.reduceEqDiff, Go.Addr.add, ↓reduceIte] at hx145_0); (try simp only [show (2 : Int).toNat = 2 from rfl, Nat.reduceMul, Nat.reduceEqDiff, Go.Addr.add, ↓reduceIte] at hx145_1); (try simp only [show (2 : Int).toNat = 2 from rfl, Nat.reduceMul, Nat.reduceEqDiff, Go.Addr.add, ↓reduceIte] at hx145_2); (try simp only [show (2 : Int).toNat = 2 from rfl, Nat.reduceMul, Nat.reduceEqDiff, Go.Addr.add, ↓reduceIte] at hx145_3); have qi145 : (2 < t138.length) = True := eq_true (by omega); (try rw [show ((2 : Int)).toNat = 2 from rfl] at hx145_0); (try rw [show 2 * 4 = 8 from rfl] at hx145_0); (try rw [show ((2 : Int)).toNat = 2 from rfl] at hx145_1); (try rw [show 2 * 4 = 8 from rfl] at hx145_1); (try rw [show ((2 : Int)).toNat = 2 from rfl] at hx145_2); (try rw [show 2 * 4 = 8 from rfl] at hx145_2); (try rw [show ((2 : Int)).toNat = 2 from rfl] at hx145_3); (try rw [show 2 * 4 = 8 from rfl] at hx145_3); replace p145 := eq_true p145; replace q145 := eq_true q145; have p146 : 0 ≤ (3 : Int) := (by omega); have q146 : 3 < (t138.length : Int) := of_decide_eq_true (by first | (with_reducible assumption) | assumption); obtain ⟨ad146, e146, hx146_0, hx146_1, hx146_2, hx146_3⟩ := at_T29 (Kd.R_reads' HO142.out).2.2 3 p146 q146; obtain rfl : ad143 = ad146 := (by injection e146); (try simp only [show (3 : Int).toNat = 3 from rfl, Nat.reduceMul, Nat.reduceEqDiff, Go.Addr.add, ↓reduceIte] at hx146_0); (try simp only [show (3 : Int).toNat = 3 from rfl, Nat.reduceMul, Nat.reduceEqDiff, Go.Addr.add, ↓reduceIte] at hx146_1); (try simp only [show (3 : Int).toNat = 3 from rfl, Nat.reduceMul, Nat.reduceEqDiff, Go.Addr.add, ↓reduceIte] at hx146_2); (try simp only [show (3 : Int).toNat = 3 from rfl, Nat.reduceMul, Nat.reduceEqDiff, Go.Addr.add, ↓reduceIte] at hx146_3); have qi146 : (3 < t138.length) = True := eq_true (by omega); (try rw [show ((3 : Int)).toNat = 3 from rfl] at hx146_0); (try rw [show 3 * 4 = 12 from rfl] at hx146_0); (try rw [show ((3 : Int)).toNat = 3 from rfl] at hx146_1); (try rw [show 3 * 4 = 12 from rfl] at hx146_1); (try rw [show ((3 : Int)).toNat = 3 from rfl] at hx146_2); (try rw [show 3 * 4 = 12 from rfl] at hx146_2); (try rw [show ((3 : Int)).toNat = 3 from rfl] at hx146_3); (try rw [show 3 * 4 = 12 from rfl] at hx146_3); replace p146 := eq_true p146; replace q146 := eq_true q146) | (go_at_call 19; (with_reducible refine (token_Quote.calls (⟨#[97]⟩ : ByteArray) t147 _ A13.out).mono ?_); rintro e w16 ⟨rfl, hb⟩; have n0_ := Aside0.mk (Kd.R_below (by (with_reducible repeat (first | apply Kd.R_alloc | apply Kd.R_drewN | apply Kd.R_drew)); exact HO142.out) hb); have n1_ := Aside0.mk (below_step (by repeat (first | (with_reducible first | exact HB.out | apply below_alloc | apply pw_below_drewN | apply below_drew1) | exact HB.out)) hb); clear HO142; clear HB; have HO142 := n0_; have HB := n1_; clear n0_ n1_; (try clear hb); (try clear hb2); (try clear hk); (try clear hi)))
                        go_ret
                        exact ⟨by first | rfl | (simp [errW_none, errW_some] <;> rfl) | (simp [*, errW_none, errW_some] <;> rfl), by repeat (first | (with_reducible first | exact HB.out | apply below_alloc | apply pw_below_drewN | apply below_drew1) | exact HB.out)⟩
                      · rw [if_neg c12] at H
                        have c12b0 : (((rd_T29 t138 3).f0) == 3) = false := beq_eq_false_iff_ne.mpr c12
                        have c12b1 : (((rd_T29 t138 3).f0) != 3) = true := bne_iff_ne.mpr c12
                        obtain rfl := Option.some.inj H
                        go_enter Tryd.func15, Tryd.ntmps15
                        go_wp2_with (first | ((with_reducible refine gate_callee (f := 16) rfl ?_); refine goesL_ (some 5) rfl rfl Tryd.func16 (by kernel_rfl) rfl #[.string (⟨#[97, 32, 61, 32, 45, 53, 59]⟩ : ByteArray)] rfl (by (try simp only [List.map_toArray, List.map_cons, List.map_nil]); first | done | rfl | (simp only [List.length_drop, List.length_take]; rfl)) ?_; (with_reducible refine (token_All.calls (⟨#[97, 32, 61, 32, 45, 53, 59]⟩ : ByteArray) t138 t139 t140 _ ?side1 A1.out).mono ?_); (case side1 => exact hG.below (by repeat (first | (with_reducible first | exact HB.out | apply below_alloc | apply pw_below_drewN | apply below_drew1) | exact HB.out))); rintro e w17 ⟨v141, rfl, ho0, hb⟩; refine ⟨_, rfl, ?_⟩; have n0_ := Aside0.mk (Kd.R_lower ho0 (below_size (by repeat (first | (with_reducible first | exact HB.out | apply below_alloc | apply pw_below_drewN | apply below_drew1) | exact HB.out)))); have n1_ := Aside0.mk (below_step (by repeat (first | (with_reducible first | exact HB.out | apply below_alloc | apply pw_below_drewN | apply below_drew1) | exact HB.out)) hb); clear HB; have HO142 := n0_; have HB := n1_; clear n0_ n1_; (try clear hb); (try clear hb2); (try clear hk); (try clear hi); (try clear ho0); obtain ⟨Ao18, co18, eo18⟩ := Kd.R_slice HO142.out; subst eo18; have p143 : 0 ≤ (0 : Int) := (by omega); have q143 : 0 < (t138.length : Int) := of_decide_eq_true (by first | (with_reducible assumption) | assumption); obtain ⟨ad143, e143, hx143_0, hx143_1, hx143_2, hx143_3⟩ := at_T29 (Kd.R_reads' HO142.out).2.2 0 p143 q143; cases e143; have qi143 : (0 < t138.length) = True := eq_true (by omega); (try rw [show ((0 : Int)).toNat = 0 from rfl] at hx143_0); (try rw [show 0 * 4 = 0 from rfl] at hx143_0); (try rw [Addr.add_zero'] at hx143_0); (try rw [show ((0 : Int)).toNat = 0 from rfl] at hx143_1); (try rw [show 0 * 4 = 0 from rfl] at hx143_1); (try rw [Addr.add_zero'] at hx143_1); (try rw [show ((0 : Int)).toNat = 0 from rfl] at hx143_2); (try rw [show 0 * 4 = 0 from rfl] at hx143_2); (try rw [Addr.add_zero'] at hx143_2); (try rw [show ((0 : Int)).toNat = 0 from rfl] at hx143_3); (try rw [show 0 * 4 = 0 from rfl] at hx143_3); (try rw [Addr.add_zero'] at hx143_3); replace p143 := eq_true p143; replace q143 := eq_true q143; have p144 : 0 ≤ (1 : Int) := (by omega); have q144 : 1 < (t138.length : Int) := of_decide_eq_true (by first | (with_reducible assumption) | assumption); obtain ⟨ad144, e144, hx144_0, hx144_1, hx144_2, hx144_3⟩ := at_T29 (Kd.R_reads' HO142.out).2.2 1 p144 q144; obtain rfl : ad143 = ad144 := (by injection e144); (try simp only [show (1 : Int).toNat = 1 from rfl, Nat.reduceMul, Nat.reduceEqDiff, Go.Addr.add, ↓reduceIte] at hx144_0); (try simp only [show (1 : Int).toNat = 1 from rfl, Nat.reduceMul, Nat.reduceEqDiff, Go.Addr.add, ↓reduceIte] at hx144_1); (try simp only [show (1 : Int).toNat = 1 from rfl, Nat.reduceMul, Nat.reduceEqDiff, Go.Addr.add, ↓reduceIte] at hx144_2); (try simp only [show (1 : Int).toNat = 1 from rfl, Nat.reduceMul, Nat.reduceEqDiff, Go.Addr.add, ↓reduceIte] at hx144_3); have qi144 : (1 < t138.length) = True := eq_true (by omega); (try rw [show ((1 : Int)).toNat = 1 from rfl] at hx144_0); (try rw [show 1 * 4 = 4 from rfl] at hx144_0); (try rw [show ((1 : Int)).toNat = 1 from rfl] at hx144_1); (try rw [show 1 * 4 = 4 from rfl] at hx144_1); (try rw [show ((1 : Int)).toNat = 1 from rfl] at hx144_2); (try rw [show 1 * 4 = 4 from rfl] at hx144_2); (try rw [show ((1 : Int)).toNat = 1 from rfl] at hx144_3); (try rw [show 1 * 4 = 4 from rfl] at hx144_3); replace p144 := eq_true p144; replace q144 := eq_true q144; have p145 : 0 ≤ (2 : Int) := (by omega); have q145 : 2 < (t138.length : Int) := of_decide_eq_true (by first | (with_reducible assumption) | assumption); obtain ⟨ad145, e145, hx145_0, hx145_1, hx145_2, hx145_3⟩ := at_T29 (Kd.R_reads' HO142.out).2.2 2 p145 q145; obtain rfl : ad143 = ad145 := (by injection e145); (try simp only [show (2 : Int).toNat = 2 from rfl, Nat.reduceMul, Nat.reduceEqDiff, Go.Addr.add, ↓reduceIte] at hx145_0); (try simp only [show (2 : Int).toNat = 2 from rfl, Nat.reduceMul, Nat.reduceEqDiff, Go.Addr.add, ↓reduceIte] at hx145_1); (try simp only [show (2 : Int).toNat = 2 from rfl, Nat.reduceMul, Nat.reduceEqDiff, Go.Addr.add, ↓reduceIte] at hx145_2); (try simp only [show (2 : Int).toNat = 2 from rfl, Nat.reduceMul, Nat.reduceEqDiff, Go.Addr.add, ↓reduceIte] at hx145_3); have qi145 : (2 < t138.length) = True := eq_true (by omega); (try rw [show ((2 : Int)).toNat = 2 from rfl] at hx145_0); (try rw [show 2 * 4 = 8 from rfl] at hx145_0); (try rw [show ((2 : Int)).toNat = 2 from rfl] at hx145_1); (try rw [show 2 * 4 = 8 from rfl] at hx145_1); (try rw [show ((2 : Int)).toNat = 2 from rfl] at hx145_2); (try rw [show 2 * 4 = 8 from rfl] at hx145_2); (try rw [show ((2 : Int)).toNat = 2 from rfl] at hx145_3); (try rw [show 2 * 4 = 8 from rfl] at hx145_3); replace p145 := eq_true p145; replace q145 := eq_true q145; have p146 : 0 ≤ (3 : Int) := (by omega); have q146 : 3 < (t138.length : Int) := of_decide_eq_true (by first | (with_reducible assumption) | assumption); obtain ⟨ad146, e146, hx146_0, hx146_1, hx146_2, hx146_3⟩ := at_T29 (Kd.R_reads' HO142.out).2.2 3 p146 q146; obtain rfl : ad143 = ad146 := (by injection e146); (try simp only [show (3 : Int).toNat = 3 from rfl, Nat.reduceMul, Nat.reduceEqDiff, Go.Addr.add, ↓reduceIte] at hx146_0); (try simp only [show (3 : Int).toNat = 3 from rfl, Nat.reduceMul, Nat.reduceEqDiff, Go.Addr.add, ↓reduceIte] at hx146_1); (try simp only [show (3 : Int).toNat = 3 from rfl, Nat.reduceMul, Nat.reduceEqDiff, Go.Addr.add, ↓reduceIte] at hx146_2); (try simp only [show (3 : Int).toNat = 3 from rfl, Nat.reduceMul, Nat.reduceEqDiff, Go.Addr.add, ↓reduceIte] at hx146_3); have qi146 : (3 < t138.length) = True := eq_true (by omega); (try rw [show ((3 : Int)).toNat = 3 from rfl] at hx146_0); (try rw [show 3 * 4 = 12 from rfl] at hx146_0); (try rw [show ((3 : Int)).toNat = 3 from rfl] at hx146_1); (try rw [show 3 * 4 = 12 from rfl] at hx146_1); (try rw [show ((3 : Int)).toNat = 3 from rfl] at hx146_2); (try rw [show 3 * 4 = 12 from rfl] at hx146_2); (try rw [show ((3 : Int)).toNat = 3 from rfl] at hx146_3); (try rw [show 3 * 4 = 12 from rfl] at hx146_3); replace p146 := eq_true p146; replace q146 := eq_true q146))
                        go_ret
                        exact ⟨by first | rfl | (simp [errW_none, errW_some] <;> rfl) | (simp [*, errW_none, errW_some] <;> rfl), by repeat (first | (with_reducible first | exact HB.out | apply below_alloc | apply pw_below_drewN | apply below_drew1) | exact HB.out)⟩
                    · rw [if_neg c11] at H
                      exact absurd H (by simp)
                  · rw [if_neg c10] at H
                    have c10b0 : (((rd_T29 t138 2).f2) == (-5)) = false := beq_eq_false_iff_ne.mpr c10
                    have c10b1 : (((rd_T29 t138 2).f2) != (-5)) = true := bne_iff_ne.mpr c10
                    obtain rfl := Option.some.inj H
                    go_enter Tryd.func15, Tryd.ntmps15
                    go_wp2_with (first | ((with_reducible refine gate_callee (f := 16) rfl ?_); refine goesL_ (some 5) rfl rfl Tryd.func16 (by kernel_rfl) rfl #[.string (⟨#[97, 32, 61, 32, 45, 53, 59]⟩ : ByteArray)] rfl (by (try simp only [List.map_toArray, List.map_cons, List.map_nil]); first | done | rfl | (simp only [List.length_drop, List.length_take]; rfl)) ?_; (with_reducible refine (token_All.calls (⟨#[97, 32, 61, 32, 45, 53, 59]⟩ : ByteArray) t138 t139 t140 _ ?side1 A1.out).mono ?_); (case side1 => exact hG.below (by repeat (first | (with_reducible first | exact HB.out | apply below_alloc | apply pw_below_drewN | apply below_drew1) | exact HB.out))); rintro e w19 ⟨v141, rfl, ho0, hb⟩; refine ⟨_, rfl, ?_⟩; have n0_ := Aside0.mk (Kd.R_lower ho0 (below_size (by repeat (first | (with_reducible first | exact HB.out | apply below_alloc | apply pw_below_drewN | apply below_drew1) | exact HB.out)))); have n1_ := Aside0.mk (below_step (by repeat (first | (with_reducible first | exact HB.out | apply below_alloc | apply pw_below_drewN | apply below_drew1) | exact HB.out)) hb); clear HB; have HO142 := n0_; have HB := n1_; clear n0_ n1_; (try clear hb); (try clear hb2); (try clear hk); (try clear hi); (try clear ho0); obtain ⟨Ao20, co20, eo20⟩ := Kd.R_slice HO142.out; subst eo20; have p143 : 0 ≤ (0 : Int) := (by omega); have q143 : 0 < (t138.length : Int) := of_decide_eq_true (by first | (with_reducible assumption) | assumption); obtain ⟨ad143, e143, hx143_0, hx143_1, hx143_2, hx143_3⟩ := at_T29 (Kd.R_reads' HO142.out).2.2 0 p143 q143; cases e143; have qi143 : (0 < t138.length) = True := eq_true (by omega); (try rw [show ((0 : Int)).toNat = 0 from rfl] at hx143_0); (try rw [show 0 * 4 = 0 from rfl] at hx143_0); (try rw [Addr.add_zero'] at hx143_0); (try rw [show ((0 : Int)).toNat = 0 from rfl] at hx143_1); (try rw [show 0 * 4 = 0 from rfl] at hx143_1); (try rw [Addr.add_zero'] at hx143_1); (try rw [show ((0 : Int)).toNat = 0 from rfl] at hx143_2); (try rw [show 0 * 4 = 0 from rfl] at hx143_2); (try rw [Addr.add_zero'] at hx143_2); (try rw [show ((0 : Int)).toNat = 0 from rfl] at hx143_3); (try rw [show 0 * 4 = 0 from rfl] at hx143_3); (try rw [Addr.add_zero'] at hx143_3); replace p143 := eq_true p143; replace q143 := eq_true q143; have p144 : 0 ≤ (1 : Int) := (by omega); have q144 : 1 < (t138.length : Int) := of_decide_eq_true (by first | (with_reducible assumption) | assumption); obtain ⟨ad144, e144, hx144_0, hx144_1, hx144_2, hx144_3⟩ := at_T29 (Kd.R_reads' HO142.out).2.2 1 p144 q144; obtain rfl : ad143 = ad144 := (by injection e144); (try simp only [show (1 : Int).toNat = 1 from rfl, Nat.reduceMul, Nat.reduceEqDiff, Go.Addr.add, ↓reduceIte] at hx144_0); (try simp only [show (1 : Int).toNat = 1 from rfl, Nat.reduceMul, Nat.reduceEqDiff, Go.Addr.add, ↓reduceIte] at hx144_1); (try simp only [show (1 : Int).toNat = 1 from rfl, Nat.reduceMul, Nat.reduceEqDiff, Go.Addr.add, ↓reduceIte] at hx144_2); (try simp only [show (1 : Int).toNat = 1 from rfl, Nat.reduceMul, Nat.reduceEqDiff, Go.Addr.add, ↓reduceIte] at hx144_3); have qi144 : (1 < t138.length) = True := eq_true (by omega); (try rw [show ((1 : Int)).toNat = 1 from rfl] at hx144_0); (try rw [show 1 * 4 = 4 from rfl] at hx144_0); (try rw [show ((1 : Int)).toNat = 1 from rfl] at hx144_1); (try rw [show 1 * 4 = 4 from rfl] at hx144_1); (try rw [show ((1 : Int)).toNat = 1 from rfl] at hx144_2); (try rw [show 1 * 4 = 4 from rfl] at hx144_2); (try rw [show ((1 : Int)).toNat = 1 from rfl] at hx144_3); (try rw [show 1 * 4 = 4 from rfl] at hx144_3); replace p144 := eq_true p144; replace q144 := eq_true q144; have p145 : 0 ≤ (2 : Int) := (by omega); have q145 : 2 < (t138.length : Int) := of_decide_eq_true (by first | (with_reducible assumption) | assumption); obtain ⟨ad145, e145, hx145_0, hx145_1, hx145_2, hx145_3⟩ := at_T29 (Kd.R_reads' HO142.out).2.2 2 p145 q145; obtain rfl : ad143 = ad145 := (by injection e145); (try simp only [show (2 : Int).toNat = 2 from rfl, Nat.reduceMul, Nat.reduceEqDiff, Go.Addr.add, ↓reduceIte] at hx145_0); (try simp only [show (2 : Int).toNat = 2 from rfl, Nat.reduceMul, Nat.reduceEqDiff, Go.Addr.add, ↓reduceIte] at hx145_1); (try simp only [show (2 : Int).toNat = 2 from rfl, Nat.reduceMul, Nat.reduceEqDiff, Go.Addr.add, ↓reduceIte] at hx145_2); (try simp only [show (2 : Int).toNat = 2 from rfl, Nat.reduceMul, Nat.reduceEqDiff, Go.Addr.add, ↓reduceIte] at hx145_3); have qi145 : (2 < t138.length) = True := eq_true (by omega); (try rw [show ((2 : Int)).toNat = 2 from rfl] at hx145_0); (try rw [show 2 * 4 = 8 from rfl] at hx145_0); (try rw [show ((2 : Int)).toNat = 2 from rfl] at hx145_1); (try rw [show 2 * 4 = 8 from rfl] at hx145_1); (try rw [show ((2 : Int)).toNat = 2 from rfl] at hx145_2); (try rw [show 2 * 4 = 8 from rfl] at hx145_2); (try rw [show ((2 : Int)).toNat = 2 from rfl] at hx145_3); (try rw [show 2 * 4 = 8 from rfl] at hx145_3); replace p145 := eq_true p145; replace q145 := eq_true q145))
                    go_ret
                    exact ⟨by first | rfl | (simp [errW_none, errW_some] <;> rfl) | (simp [*, errW_none, errW_some] <;> rfl), by repeat (first | (with_reducible first | exact HB.out | apply below_alloc | apply pw_below_drewN | apply below_drew1) | exact HB.out)⟩
                · rw [if_neg c9] at H
                  exact absurd H (by simp)
              · rw [if_neg c8] at H
                have c8b0 : (((rd_T29 t138 1).f1).toList == ([61] : List UInt8)) = false := beq_eq_false_iff_ne.mpr c8
                have c8b1 : (((rd_T29 t138 1).f1).toList != ([61] : List UInt8)) = true := bne_iff_ne.mpr c8
                obtain rfl := Option.some.inj H
                go_enter Tryd.func15, Tryd.ntmps15
                go_wp2_with (first | ((with_reducible refine gate_callee (f := 16) rfl ?_); refine goesL_ (some 5) rfl rfl Tryd.func16 (by kernel_rfl) rfl #[.string (⟨#[97, 32, 61, 32, 45, 53, 59]⟩ : ByteArray)] rfl (by (try simp only [List.map_toArray, List.map_cons, List.map_nil]); first | done | rfl | (simp only [List.length_drop, List.length_take]; rfl)) ?_; (with_reducible refine (token_All.calls (⟨#[97, 32, 61, 32, 45, 53, 59]⟩ : ByteArray) t138 t139 t140 _ ?side1 A1.out).mono ?_); (case side1 => exact hG.below (by repeat (first | (with_reducible first | exact HB.out | apply below_alloc | apply pw_below_drewN | apply below_drew1) | exact HB.out))); rintro e w21 ⟨v141, rfl, ho0, hb⟩; refine ⟨_, rfl, ?_⟩; have n0_ := Aside0.mk (Kd.R_lower ho0 (below_size (by repeat (first | (with_reducible first | exact HB.out | apply below_alloc | apply pw_below_drewN | apply below_drew1) | exact HB.out)))); have n1_ := Aside0.mk (below_step (by repeat (first | (with_reducible first | exact HB.out | apply below_alloc | apply pw_below_drewN | apply below_drew1) | exact HB.out)) hb); clear HB; have HO142 := n0_; have HB := n1_; clear n0_ n1_; (try clear hb); (try clear hb2); (try clear hk); (try clear hi); (try clear ho0); obtain ⟨Ao22, co22, eo22⟩ := Kd.R_slice HO142.out; subst eo22; have p143 : 0 ≤ (0 : Int) := (by omega); have q143 : 0 < (t138.length : Int) := of_decide_eq_true (by first | (with_reducible assumption) | assumption); obtain ⟨ad143, e143, hx143_0, hx143_1, hx143_2, hx143_3⟩ := at_T29 (Kd.R_reads' HO142.out).2.2 0 p143 q143; cases e143; have qi143 : (0 < t138.length) = True := eq_true (by omega); (try rw [show ((0 : Int)).toNat = 0 from rfl] at hx143_0); (try rw [show 0 * 4 = 0 from rfl] at hx143_0); (try rw [Addr.add_zero'] at hx143_0); (try rw [show ((0 : Int)).toNat = 0 from rfl] at hx143_1); (try rw [show 0 * 4 = 0 from rfl] at hx143_1); (try rw [Addr.add_zero'] at hx143_1); (try rw [show ((0 : Int)).toNat = 0 from rfl] at hx143_2); (try rw [show 0 * 4 = 0 from rfl] at hx143_2); (try rw [Addr.add_zero'] at hx143_2); (try rw [show ((0 : Int)).toNat = 0 from rfl] at hx143_3); (try rw [show 0 * 4 = 0 from rfl] at hx143_3); (try rw [Addr.add_zero'] at hx143_3); replace p143 := eq_true p143; replace q143 := eq_true q143; have p144 : 0 ≤ (1 : Int) := (by omega); have q144 : 1 < (t138.length : Int) := of_decide_eq_true (by first | (with_reducible assumption) | assumption); obtain ⟨ad144, e144, hx144_0, hx144_1, hx144_2, hx144_3⟩ := at_T29 (Kd.R_reads' HO142.out).2.2 1 p144 q144; obtain rfl : ad143 = ad144 := (by injection e144); (try simp only [show (1 : Int).toNat = 1 from rfl, Nat.reduceMul, Nat.reduceEqDiff, Go.Addr.add, ↓reduceIte] at hx144_0); (try simp only [show (1 : Int).toNat = 1 from rfl, Nat.reduceMul, Nat.reduceEqDiff, Go.Addr.add, ↓reduceIte] at hx144_1); (try simp only [show (1 : Int).toNat = 1 from rfl, Nat.reduceMul, Nat.reduceEqDiff, Go.Addr.add, ↓reduceIte] at hx144_2); (try simp only [show (1 : Int).toNat = 1 from rfl, Nat.reduceMul, Nat.reduceEqDiff, Go.Addr.add, ↓reduceIte] at hx144_3); have qi144 : (1 < t138.length) = True := eq_true (by omega); (try rw [show ((1 : Int)).toNat = 1 from rfl] at hx144_0); (try rw [show 1 * 4 = 4 from rfl] at hx144_0); (try rw [show ((1 : Int)).toNat = 1 from rfl] at hx144_1); (try rw [show 1 * 4 = 4 from rfl] at hx144_1); (try rw [show ((1 : Int)).toNat = 1 from rfl] at hx144_2); (try rw [show 1 * 4 = 4 from rfl] at hx144_2); (try rw [show ((1 : Int)).toNat = 1 from rfl] at hx144_3); (try rw [show 1 * 4 = 4 from rfl] at hx144_3); replace p144 := eq_true p144; replace q144 := eq_true q144))
                go_ret
                exact ⟨by first | rfl | (simp [errW_none, errW_some] <;> rfl) | (simp [*, errW_none, errW_some] <;> rfl), by repeat (first | (with_reducible first | exact HB.out | apply below_alloc | apply pw_below_drewN | apply below_drew1) | exact HB.out)⟩
            · rw [if_neg c7] at H
              exact absurd H (by simp)
          · rw [if_neg c6] at H
            have c6b0 : (((rd_T29 t138 0).f0) == 0) = false := beq_eq_false_iff_ne.mpr c6
            have c6b1 : (((rd_T29 t138 0).f0) != 0) = true := bne_iff_ne.mpr c6
            obtain rfl := Option.some.inj H
            go_enter Tryd.func15, Tryd.ntmps15
            go_wp2_with (first | ((with_reducible refine gate_callee (f := 16) rfl ?_); refine goesL_ (some 5) rfl rfl Tryd.func16 (by kernel_rfl) rfl #[.string (⟨#[97, 32, 61, 32, 45, 53, 59]⟩ : ByteArray)] rfl (by (try simp only [List.map_toArray, List.map_cons, List.map_nil]); first | done | rfl | (simp only [List.length_drop, List.length_take]; rfl)) ?_; (with_reducible refine (token_All.calls (⟨#[97, 32, 61, 32, 45, 53, 59]⟩ : ByteArray) t138 t139 t140 _ ?side1 A1.out).mono ?_); (case side1 => exact hG.below (by repeat (first | (with_reducible first | exact HB.out | apply below_alloc | apply pw_below_drewN | apply below_drew1) | exact HB.out))); rintro e w23 ⟨v141, rfl, ho0, hb⟩; refine ⟨_, rfl, ?_⟩; have n0_ := Aside0.mk (Kd.R_lower ho0 (below_size (by repeat (first | (with_reducible first | exact HB.out | apply below_alloc | apply pw_below_drewN | apply below_drew1) | exact HB.out)))); have n1_ := Aside0.mk (below_step (by repeat (first | (with_reducible first | exact HB.out | apply below_alloc | apply pw_below_drewN | apply below_drew1) | exact HB.out)) hb); clear HB; have HO142 := n0_; have HB := n1_; clear n0_ n1_; (try clear hb); (try clear hb2); (try clear hk); (try clear hi); (try clear ho0); obtain ⟨Ao24, co24, eo24⟩ := Kd.R_slice HO142.out; subst eo24; have p143 : 0 ≤ (0 : Int) := (by omega); have q143 : 0 < (t138.length : Int) := of_decide_eq_true (by first | (with_reducible assumption) | assumption); obtain ⟨ad143, e143, hx143_0, hx143_1, hx143_2, hx143_3⟩ := at_T29 (Kd.R_reads' HO142.out).2.2 0 p143 q143; cases e143; have qi143 : (0 < t138.length) = True := eq_true (by omega); (try rw [show ((0 : Int)).toNat = 0 from rfl] at hx143_0); (try rw [show 0 * 4 = 0 from rfl] at hx143_0); (try rw [Addr.add_zero'] at hx143_0); (try rw [show ((0 : Int)).toNat = 0 from rfl] at hx143_1); (try rw [show 0 * 4 = 0 from rfl] at hx143_1); (try rw [Addr.add_zero'] at hx143_1); (try rw [show ((0 : Int)).toNat = 0 from rfl] at hx143_2); (try rw [show 0 * 4 = 0 from rfl] at hx143_2); (try rw [Addr.add_zero'] at hx143_2); (try rw [show ((0 : Int)).toNat = 0 from rfl] at hx143_3); (try rw [show 0 * 4 = 0 from rfl] at hx143_3); (try rw [Addr.add_zero'] at hx143_3); replace p143 := eq_true p143; replace q143 := eq_true q143))
            go_ret
            exact ⟨by first | rfl | (simp [errW_none, errW_some] <;> rfl) | (simp [*, errW_none, errW_some] <;> rfl), by repeat (first | (with_reducible first | exact HB.out | apply below_alloc | apply pw_below_drewN | apply below_drew1) | exact HB.out)⟩
        · rw [if_neg c5] at H
          exact absurd H (by simp)
      · rw [if_neg c4] at H
        have c4b0 : ((t138.length : Int) == 4) = false := beq_eq_false_iff_ne.mpr c4
        have c4b1 : ((t138.length : Int) != 4) = true := bne_iff_ne.mpr c4
        obtain rfl := Option.some.inj H
        go_enter Tryd.func15, Tryd.ntmps15
        go_wp2_with (first | ((with_reducible refine gate_callee (f := 16) rfl ?_); refine goesL_ (some 5) rfl rfl Tryd.func16 (by kernel_rfl) rfl #[.string (⟨#[97, 32, 61, 32, 45, 53, 59]⟩ : ByteArray)] rfl (by (try simp only [List.map_toArray, List.map_cons, List.map_nil]); first | done | rfl | (simp only [List.length_drop, List.length_take]; rfl)) ?_; (with_reducible refine (token_All.calls (⟨#[97, 32, 61, 32, 45, 53, 59]⟩ : ByteArray) t138 t139 t140 _ ?side1 A1.out).mono ?_); (case side1 => exact hG.below (by repeat (first | (with_reducible first | exact HB.out | apply below_alloc | apply pw_below_drewN | apply below_drew1) | exact HB.out))); rintro e w25 ⟨v141, rfl, ho0, hb⟩; refine ⟨_, rfl, ?_⟩; have n0_ := Aside0.mk (Kd.R_lower ho0 (below_size (by repeat (first | (with_reducible first | exact HB.out | apply below_alloc | apply pw_below_drewN | apply below_drew1) | exact HB.out)))); have n1_ := Aside0.mk (below_step (by repeat (first | (with_reducible first | exact HB.out | apply below_alloc | apply pw_below_drewN | apply below_drew1) | exact HB.out)) hb); clear HB; have HO142 := n0_; have HB := n1_; clear n0_ n1_; (try clear hb); (try clear hb2); (try clear hk); (try clear hi); (try clear ho0); obtain ⟨Ao26, co26, eo26⟩ := Kd.R_slice HO142.out; subst eo26))
        go_ret
        exact ⟨by first | rfl | (simp [errW_none, errW_some] <;> rfl) | (simp [*, errW_none, errW_some] <;> rfl), by repeat (first | (with_reducible first | exact HB.out | apply below_alloc | apply pw_below_drewN | apply below_drew1) | exact HB.out)⟩
    · rw [if_neg c3] at H
      have c3b0 : (t139 == 7) = false := beq_eq_false_iff_ne.mpr c3
      have c3b1 : (t139 != 7) = true := bne_iff_ne.mpr c3
      obtain rfl := Option.some.inj H
      go_enter Tryd.func15, Tryd.ntmps15
      go_wp2_with (first | ((with_reducible refine gate_callee (f := 16) rfl ?_); refine goesL_ (some 5) rfl rfl Tryd.func16 (by kernel_rfl) rfl #[.string (⟨#[97, 32, 61, 32, 45, 53, 59]⟩ : ByteArray)] rfl (by (try simp only [List.map_toArray, List.map_cons, List.map_nil]); first | done | rfl | (simp only [List.length_drop, List.length_take]; rfl)) ?_; (with_reducible refine (token_All.calls (⟨#[97, 32, 61, 32, 45, 53, 59]⟩ : ByteArray) t138 t139 t140 _ ?side1 A1.out).mono ?_); (case side1 => exact hG.below (by repeat (first | (with_reducible first | exact HB.out | apply below_alloc | apply pw_below_drewN | apply below_drew1) | exact HB.out))); rintro e w27 ⟨v141, rfl, ho0, hb⟩; refine ⟨_, rfl, ?_⟩; have n0_ := Aside0.mk (Kd.R_lower ho0 (below_size (by repeat (first | (with_reducible first | exact HB.out | apply below_alloc | apply pw_below_drewN | apply below_drew1) | exact HB.out)))); have n1_ := Aside0.mk (below_step (by repeat (first | (with_reducible first | exact HB.out | apply below_alloc | apply pw_below_drewN | apply below_drew1) | exact HB.out)) hb); clear HB; have HO142 := n0_; have HB := n1_; clear n0_ n1_; (try clear hb); (try clear hb2); (try clear hk); (try clear hi); (try clear ho0)))
      go_ret
      exact ⟨by first | rfl | (simp [errW_none, errW_some] <;> rfl) | (simp [*, errW_none, errW_some] <;> rfl), by repeat (first | (with_reducible first | exact HB.out | apply below_alloc | apply pw_below_drewN | apply below_drew1) | exact HB.out)⟩
  · rw [if_neg c2] at H
    have c2b0 : (t140 == 0) = false := beq_eq_false_iff_ne.mpr c2
    have c2b1 : (t140 != 0) = true := bne_iff_ne.mpr c2
    obtain rfl := Option.some.inj H
    go_enter Tryd.func15, Tryd.ntmps15
    go_wp2_with (first | ((with_reducible refine gate_callee (f := 16) rfl ?_); refine goesL_ (some 5) rfl rfl Tryd.func16 (by kernel_rfl) rfl #[.string (⟨#[97, 32, 61, 32, 45, 53, 59]⟩ : ByteArray)] rfl (by (try simp only [List.map_toArray, List.map_cons, List.map_nil]); first | done | rfl | (simp only [List.length_drop, List.length_take]; rfl)) ?_; (with_reducible refine (token_All.calls (⟨#[97, 32, 61, 32, 45, 53, 59]⟩ : ByteArray) t138 t139 t140 _ ?side1 A1.out).mono ?_); (case side1 => exact hG.below (by repeat (first | (with_reducible first | exact HB.out | apply below_alloc | apply pw_below_drewN | apply below_drew1) | exact HB.out))); rintro e w28 ⟨v141, rfl, ho0, hb⟩; refine ⟨_, rfl, ?_⟩; have n0_ := Aside0.mk (Kd.R_lower ho0 (below_size (by repeat (first | (with_reducible first | exact HB.out | apply below_alloc | apply pw_below_drewN | apply below_drew1) | exact HB.out)))); have n1_ := Aside0.mk (below_step (by repeat (first | (with_reducible first | exact HB.out | apply below_alloc | apply pw_below_drewN | apply below_drew1) | exact HB.out)) hb); clear HB; have HO142 := n0_; have HB := n1_; clear n0_ n1_; (try clear hb); (try clear hb2); (try clear hk); (try clear hi); (try clear ho0)))
    go_ret
    exact ⟨by first | rfl | (simp [errW_none, errW_some] <;> rfl) | (simp [*, errW_none, errW_some] <;> rfl), by repeat (first | (with_reducible first | exact HB.out | apply below_alloc | apply pw_below_drewN | apply below_drew1) | exact HB.out)⟩

/-! ### truffleref06_Same: function 17 -/
def truffleref06_Same.l0 : Nat → List (S29) → List (S29) → Int → Option (Bool)
  | 0, _, _, _ => none
  | k + 1, x0, x1, x5 => if x5 < (x0.length : Int) then (if 0 ≤ x5 then (if x5 < (x1.length : Int) then (if (!(((rd_T29 x0 x5).f0) == ((rd_T29 x1 x5).f0)) || (!((((rd_T29 x0 x5).f1).toList) == (((rd_T29 x1 x5).f1).toList)) || (!(((rd_T29 x0 x5).f2) == ((rd_T29 x1 x5).f2)) || (!(((rd_T29 x0 x5).f3) == ((rd_T29 x1 x5).f3)))))) = true then (some false) else (truffleref06_Same.l0 k x0 x1 (wrap64 (x5 + 1)))) else (none)) else (none)) else (some true)
def truffleref06_Same.f (k : Nat) (l0 : List (S29)) (l1 : List (S29)) : Option (Bool) := if (l0.length : Int) = (l1.length : Int) then (truffleref06_Same.l0 k l0 l1 0) else (some false)
theorem truffleref06_Same.mono_l : ∀ k, (∀ y0 y1 y2, LeO (truffleref06_Same.l0 k y0 y1 y2) (truffleref06_Same.l0 (k + 1) y0 y1 y2))
  | 0 => fun _ _ _ r h => by simp [truffleref06_Same.l0] at h
  | k + 1 => by
    have ih0 := truffleref06_Same.mono_l k
    · intro y0 y1 y2
      unfold truffleref06_Same.l0
      repeat' first
      | (with_reducible exact ih0 _ _ _)
      | (with_reducible exact LeO.refl _)
      | (with_reducible exact LeO.none _)
      | (with_reducible refine LeO.ite ?_ ?_)
      | (with_reducible refine LeO.bind ?_ (fun _ => ?_))
      | exact ih0 _ _ _
      | exact LeO.none _
      | refine LeO.ite ?_ ?_
      | refine LeO.bind ?_ (fun _ => ?_)
theorem truffleref06_Same.mono : ∀ a0 a1 k, LeO (truffleref06_Same.f k a0 a1) (truffleref06_Same.f (k + 1) a0 a1) := by
  intro a0 a1 k
  have ih0 := truffleref06_Same.mono_l k
  unfold truffleref06_Same.f
  repeat' first
      | (with_reducible exact ih0 _ _ _)
      | (with_reducible exact LeO.refl _)
      | (with_reducible exact LeO.none _)
      | (with_reducible refine LeO.ite ?_ ?_)
      | (with_reducible refine LeO.bind ?_ (fun _ => ?_))
      | exact ih0 _ _ _
      | exact LeO.none _
      | refine LeO.ite ?_ ?_
      | refine LeO.bind ?_ (fun _ => ?_)
set_option maxHeartbeats 8000000 in
set_option maxRecDepth 100000 in
theorem truffleref06_Same.calls (k : Nat) (A0 : Option Addr) (c0 : Nat) (l0 : List (S29)) (A1 : Option Addr) (c1 : Nat) (l1 : List (S29)) (r : Bool) (w : World) (hr0 : Kd.C k29 w A0 l0.length l0) (hc0 : l0.length ≤ c0) (hr1 : Kd.C k29 w A1 l1.length l1) (hc1 : l1.length ≤ c1) (h : truffleref06_Same.f k l0 l1 = some r) :
    Calls Tryd.prog 17 #[.slice A0 l0.length c0, .slice A1 l1.length c1] w fun e w' => e = .returned (.bool r) ∧ Drawn0 w w' := by
  have hu29 := Tryd.underlying29
  have HR0 := Aside0.mk hr0
  have HC0 := Aside0.mk hc0
  clear hr0 hc0
  have HR1 := Aside0.mk hr1
  have HC1 := Aside0.mk hc1
  clear hr1 hc1
  have H : (if (l0.length : Int) = (l1.length : Int) then (truffleref06_Same.l0 k l0 l1 0) else (some false)) = some r := h
  clear h
  by_cases c3 : (l0.length : Int) = (l1.length : Int)
  · rw [if_pos c3] at H
    have c3b0 : ((l0.length : Int) == (l1.length : Int)) = true := beq_iff_eq.mpr c3
    have c3b1 : ((l0.length : Int) != (l1.length : Int)) = false := bne_eq_false_iff_eq.mpr c3
    have c3b2 : (l0.length == l1.length) = true := by first | simpa using c3 | (simp at c3 ⊢; omega)
    clear c3
    have H' := Aside0.mk H
    clear H
    go_enter Tryd.func17, Tryd.ntmps17
    go_wp2
    repeat (go_quiet (fail); try go_wp2)
    go_loopg [5] k (fun kq v5 w' => ∃ (x5_1 : Int), v5 = .int .i64 x5_1 ∧ Aside0 (truffleref06_Same.l0 kq l0 l1 x5_1 = some r) ∧ Aside0 (kq ≤ k) ∧ Drawn0 w w')
    case atStart => exact ⟨(0), (by first | rfl | (simp; done) | (simp [*]; done)), H', ⟨Nat.le_refl _⟩, by repeat (first | exact Drawn0.refl _ | apply Drawn0.step)⟩
    case round =>
      clear H'
      try clear c1
      try clear p2
      try clear c3
      try clear c3b0
      try clear c3b1
      try clear c3b2
      obtain ⟨x5_1, rfl, HA, HK1, ⟨m1, rfl⟩⟩ := hrel
      cases gk with
      | zero => exact absurd HA.out (by simp [truffleref06_Same.l0])
      | succ k1 =>
        have H := HA.out
        clear HA
        simp only [truffleref06_Same.l0] at H
        by_cases c4 : x5_1 < (l0.length : Int)
        · rw [if_pos c4] at H
          have c4b0 : decide (x5_1 < (l0.length : Int)) = true := decide_eq_true c4
          clear c4
          by_cases c5 : 0 ≤ x5_1
          · rw [if_pos c5] at H
            have c5b0 : decide (0 ≤ x5_1) = true := decide_eq_true c5
            clear c5
            by_cases c6 : x5_1 < (l1.length : Int)
            · rw [if_pos c6] at H
              have c6b0 : decide (x5_1 < (l1.length : Int)) = true := decide_eq_true c6
              clear c6
              by_cases c7 : (!(((rd_T29 l0 x5_1).f0) == ((rd_T29 l1 x5_1).f0)) || (!((((rd_T29 l0 x5_1).f1).toList) == (((rd_T29 l1 x5_1).f1).toList)) || (!(((rd_T29 l0 x5_1).f2) == ((rd_T29 l1 x5_1).f2)) || (!(((rd_T29 l0 x5_1).f3) == ((rd_T29 l1 x5_1).f3)))))) = true
              · rw [if_pos c7] at H
                have c7b0 : (!(((rd_T29 l0 x5_1).f0) == ((rd_T29 l1 x5_1).f0)) || (!((((rd_T29 l0 x5_1).f1).toList) == (((rd_T29 l1 x5_1).f1).toList)) || (!(((rd_T29 l0 x5_1).f2) == ((rd_T29 l1 x5_1).f2)) || (!(((rd_T29 l0 x5_1).f3) == ((rd_T29 l1 x5_1).f3)))))) = true := c7
                clear c7
                obtain rfl := Option.some.inj H
                have p148 : 0 ≤ (x5_1 : Int) := of_decide_eq_true (by first | (with_reducible assumption) | assumption)
                have q148 : x5_1 < (l0.length : Int) := of_decide_eq_true (by first | (with_reducible assumption) | assumption)
                obtain ⟨ad148, e148, hx148_0, hx148_1, hx148_2, hx148_3⟩ := at_T29 HR0.out x5_1 p148 q148
                cases e148
                replace p148 := eq_true p148
                replace q148 := eq_true q148
                have p149 : 0 ≤ (x5_1 : Int) := of_decide_eq_true (by first | (with_reducible assumption) | assumption)
                have q149 : x5_1 < (l1.length : Int) := of_decide_eq_true (by first | (with_reducible assumption) | assumption)
                obtain ⟨ad149, e149, hx149_0, hx149_1, hx149_2, hx149_3⟩ := at_T29 HR1.out x5_1 p149 q149
                cases e149
                replace p149 := eq_true p149
                replace q149 := eq_true q149
                go_wp2
                repeat (go_quiet (fail); try go_wp2)
                go_ret
                exact ⟨by first | rfl | (simp; done) | (simp [*]; done), by repeat (first | exact Drawn0.refl _ | apply Drawn0.step)⟩
              · rw [if_neg c7] at H
                have c7b0 : (!(((rd_T29 l0 x5_1).f0) == ((rd_T29 l1 x5_1).f0)) || (!((((rd_T29 l0 x5_1).f1).toList) == (((rd_T29 l1 x5_1).f1).toList)) || (!(((rd_T29 l0 x5_1).f2) == ((rd_T29 l1 x5_1).f2)) || (!(((rd_T29 l0 x5_1).f3) == ((rd_T29 l1 x5_1).f3)))))) = false := by simpa using c7
                clear c7
                have H' := Aside0.mk H
                clear H
                have p148 : 0 ≤ (x5_1 : Int) := of_decide_eq_true (by first | (with_reducible assumption) | assumption)
                have q148 : x5_1 < (l0.length : Int) := of_decide_eq_true (by first | (with_reducible assumption) | assumption)
                obtain ⟨ad148, e148, hx148_0, hx148_1, hx148_2, hx148_3⟩ := at_T29 HR0.out x5_1 p148 q148
                cases e148
                replace p148 := eq_true p148
                replace q148 := eq_true q148
                have p149 : 0 ≤ (x5_1 : Int) := of_decide_eq_true (by first | (with_reducible assumption) | assumption)
                have q149 : x5_1 < (l1.length : Int) := of_decide_eq_true (by first | (with_reducible assumption) | assumption)
                obtain ⟨ad149, e149, hx149_0, hx149_1, hx149_2, hx149_3⟩ := at_T29 HR1.out x5_1 p149 q149
                cases e149
                replace p149 := eq_true p149
                replace q149 := eq_true q149
                go_wp2
                repeat (go_quiet (fail); try go_wp2)
                go_roundg k1
                case measure => have := HK1.out; omega
                case rel => exact ⟨(wrap64 (x5_1 + 1)), (by first | rfl | (simp; done) | (simp [*]; done)), H', ⟨by have := HK1.out; omega⟩, by repeat (first | exact Drawn0.refl _ | apply Drawn0.step)⟩
            · rw [if_neg c6] at H
              exact absurd H (by simp)
          · rw [if_neg c5] at H
            exact absurd H (by simp)
        · rw [if_neg c4] at H
          have c4b0 : decide (x5_1 < (l0.length : Int)) = false := decide_eq_false c4
          clear c4
          obtain rfl := Option.some.inj H
          go_wp2
          repeat (go_quiet (fail); try go_wp2)
          go_ret
          exact ⟨by first | rfl | (simp; done) | (simp [*]; done), by repeat (first | exact Drawn0.refl _ | apply Drawn0.step)⟩
  · rw [if_neg c3] at H
    have c3b0 : ((l0.length : Int) == (l1.length : Int)) = false := beq_eq_false_iff_ne.mpr c3
    have c3b1 : ((l0.length : Int) != (l1.length : Int)) = true := bne_iff_ne.mpr c3
    have c3b2 : (l0.length == l1.length) = false := by first | simpa using c3 | (simp at c3 ⊢; omega)
    obtain rfl := Option.some.inj H
    go_enter Tryd.func17, Tryd.ntmps17
    go_wp2
    repeat (go_quiet (fail); try go_wp2)
    go_ret
    exact ⟨by first | rfl | (simp; done) | (simp [*]; done), by repeat (first | exact Drawn0.refl _ | apply Drawn0.step)⟩

end Go.Proofs.YtngcojabofkbjaaDoor.P
