-- PRINTED by a program of this session (wip/mp.py over the kit's print) out of the translation. Not trusted: Lean checks it.
import Derived.Test.YtngcojabofkbjaaDoorPx0
import Derived.Test.YtngcojabofkbjaaDoorPx1
import Derived.Test.YtngcojabofkbjaaDoorPx7
import Derived.Test.YtngcojabofkbjaaDoorGDigits
import Derived.Test.YtngcojabofkbjaaDoorGGInv
import Derived.Test.YtngcojabofkbjaaDoorGLex
import Derived.Test.YtngcojabofkbjaaDoorGQuote
namespace Go.Proofs.YtngcojabofkbjaaDoor.P
open Go.RowKit Go.Proofs.YtngcojabofkbjaaDoorW.PrintWords Go.Proofs.YtngcojabofkbjaaDoorW.PrintLast Go.Proofs.YtngcojabofkbjaaDoorW.PrintMore
attribute [local go_sem] max2_int min2_int max_two min_two max_three min_three max_four min_four   -- for this text's walks alone
set_option linter.unusedVariables false
set_option linter.unusedSimpArgs false

attribute [local go_sem high] eqA29
/-! ### trufflelaw06_TokenBack: function 7 -/
def trufflelaw06_TokenBack.j0 : Nat → ByteArray → Int → Bool → Bool → Option (Bool)
  | 0, _, _, _, _ => none
  | k + 1, x0, x1, x5, x18 => if x18 = true then (some x5) else ((token_Quote.f x0).bind fun t297 => ((token_Digits.f x1).bind fun t298 => (if t297.size + t298.size ≤ 9223372036854775807 then ((token_All.f (t297 ++ t298)).bind fun bt299 => (if bt299.2.2 = 0 then (if (bt299.1.length : Int) = 2 then (if 0 < (bt299.1.length : Int) then (if (((rd_T29 bt299.1 0).f0) == 2 && ((((rd_T29 bt299.1 0).f1).toList) == x0.toList && (((rd_T29 bt299.1 0).f2) == 0 && (((rd_T29 bt299.1 0).f3) == 0)))) = true then (if 1 < (bt299.1.length : Int) then (some (((rd_T29 bt299.1 1).f0) == 1 && ((((rd_T29 bt299.1 1).f1).toList) == t298.toList && (((rd_T29 bt299.1 1).f2) == x1 && (((rd_T29 bt299.1 1).f3) == (t297.size : Int)))))) else (none)) else (some false)) else (none)) else (some false)) else (some false))) else (none))))
def trufflelaw06_TokenBack.f (k : Nat) (a0 : ByteArray) (a1 : Int) : Option (Bool) := (trufflelaw06_awake.f).bind fun t296 => (if t296 = true then (trufflelaw06_TokenBack.j0 k a0 a1 t296 (decide ((a0.size : Int) > 1000))) else (trufflelaw06_TokenBack.j0 k a0 a1 t296 true))
theorem trufflelaw06_TokenBack.mono_l : ∀ k, (∀ y0 y1 y2 y3, LeO (trufflelaw06_TokenBack.j0 k y0 y1 y2 y3) (trufflelaw06_TokenBack.j0 (k + 1) y0 y1 y2 y3))
  | 0 => fun _ _ _ _ r h => by simp [trufflelaw06_TokenBack.j0] at h
  | k + 1 => by
    have ih0 := trufflelaw06_TokenBack.mono_l k
    · intro y0 y1 y2 y3
      unfold trufflelaw06_TokenBack.j0
      repeat' first
      | (with_reducible exact ih0 _ _ _ _)
      | (with_reducible exact LeO.refl _)
      | (with_reducible exact LeO.none _)
      | (with_reducible refine LeO.ite ?_ ?_)
      | (with_reducible refine LeO.bind ?_ (fun _ => ?_))
      | exact ih0 _ _ _ _
      | exact LeO.none _
      | refine LeO.ite ?_ ?_
      | refine LeO.bind ?_ (fun _ => ?_)
theorem trufflelaw06_TokenBack.mono : ∀ a0 a1 k, LeO (trufflelaw06_TokenBack.f k a0 a1) (trufflelaw06_TokenBack.f (k + 1) a0 a1) := by
  intro a0 a1 k
  have ih0 := trufflelaw06_TokenBack.mono_l k
  unfold trufflelaw06_TokenBack.f
  repeat' first
      | (with_reducible exact ih0 _ _ _ _)
      | (with_reducible exact LeO.refl _)
      | (with_reducible exact LeO.none _)
      | (with_reducible refine LeO.ite ?_ ?_)
      | (with_reducible refine LeO.bind ?_ (fun _ => ?_))
      | exact ih0 _ _ _ _
      | exact LeO.none _
      | refine LeO.ite ?_ ?_
      | refine LeO.bind ?_ (fun _ => ?_)
set_option maxHeartbeats 8000000 in
set_option maxRecDepth 100000 in
theorem trufflelaw06_TokenBack.calls (k : Nat) (a0 : ByteArray) (a1 : Int) (r : Bool) (w : World) (hG : GInv w) (h : trufflelaw06_TokenBack.f k a0 a1 = some r) :
    Calls Tryd.prog 7 #[.string a0, .int .i64 a1] w fun e w' => e = .returned (.bool r) ∧ Below w.heap.size w w' := by
  have hu29 := Tryd.underlying29
  have HB := Aside0.mk (Below.refl w.heap.size w)
  have H : ((trufflelaw06_awake.f).bind fun t296 => (if t296 = true then (trufflelaw06_TokenBack.j0 k a0 a1 t296 (decide ((a0.size : Int) > 1000))) else (trufflelaw06_TokenBack.j0 k a0 a1 t296 true))) = some r := h
  clear h
  replace H := Option.bind_eq_some_iff.mp H
  obtain ⟨t296, A30, H⟩ := H
  replace H : (if t296 = true then (trufflelaw06_TokenBack.j0 k a0 a1 t296 (decide ((a0.size : Int) > 1000))) else (trufflelaw06_TokenBack.j0 k a0 a1 t296 true)) = some r := H
  have A3 := Aside0.mk A30
  clear A30
  have HC4 := Aside0.mk H
  clear H
  go_enter Tryd.func7, Tryd.ntmps7
  go_upto_region 2 with (first | ((with_reducible refine gate_callee (f := 15) rfl ?_); refine goesL_ (some 11) rfl rfl Tryd.func15 (by kernel_rfl) rfl #[] rfl (by (try simp only [List.map_toArray, List.map_cons, List.map_nil]); first | done | rfl | (simp only [List.length_drop, List.length_take]; rfl)) ?_; (with_reducible refine (trufflelaw06_awake.calls  t296 _ ?side1 A3.out).mono ?_); (case side1 => exact hG.below (by repeat (first | (with_reducible first | exact HB.out | apply below_alloc | apply pw_below_drewN | apply below_drew1) | exact HB.out))); rintro e w5 ⟨rfl, hb⟩; refine ⟨_, rfl, ?_⟩; have n0_ := Aside0.mk (below_step (by repeat (first | (with_reducible first | exact HB.out | apply below_alloc | apply pw_below_drewN | apply below_drew1) | exact HB.out)) hb); clear HB; have HB := n0_; clear n0_; (try clear hb); (try clear hb2); (try clear hk); (try clear hi)))
  (try simp only [Act.put, List.setIfInBounds_toArray, List.set_cons_zero, List.set_cons_succ])
  go_cut [18] (fun v18 wc => ∃ (kq : Nat) (x18_3 : Bool), v18 = .bool x18_3 ∧ Aside0 (trufflelaw06_TokenBack.j0 kq a0 a1 t296 x18_3 = some r) ∧ Aside0 (kq ≤ k) ∧ Aside0 (Below w.heap.size w wc))
  case first =>
    have H := HC4.out
    clear HC4
    by_cases c6 : t296 = true
    · subst c6
      have H1 : (trufflelaw06_TokenBack.j0 k a0 a1 true (decide ((a0.size : Int) > 1000))) = some r := by rw [if_pos rfl] at H; exact H
      clear H
      have H := H1
      clear H1
      have H' := Aside0.mk H
      clear H
      go_wp2
      go_meet
      case rel => exact ⟨_, (decide ((a0.size : Int) > 1000)), (by first | rfl | (simp; done) | (simp [*]; done)), H', ⟨by first | omega | exact Nat.le_refl _⟩, ⟨by repeat (first | (with_reducible first | exact HB.out | apply below_alloc | apply pw_below_drewN | apply below_drew1) | exact HB.out)⟩⟩
    · replace c6 := Bool.eq_false_iff.mpr c6
      subst c6
      have H1 : (trufflelaw06_TokenBack.j0 k a0 a1 false true) = some r := by rw [if_neg (show ¬ (false = true) by decide)] at H; exact H
      clear H
      have H := H1
      clear H1
      have H' := Aside0.mk H
      clear H
      go_wp2
      go_meet
      case rel => exact ⟨_, (true), (by first | rfl | (simp; done) | (simp [*]; done)), H', ⟨by first | omega | exact Nat.le_refl _⟩, ⟨by repeat (first | (with_reducible first | exact HB.out | apply below_alloc | apply pw_below_drewN | apply below_drew1) | exact HB.out)⟩⟩
  case rest =>
    clear HC4
    try clear c1
    try clear p2
    try clear c6
    obtain ⟨kq, x18_3, rfl, HA, HJ3, HB⟩ := hcut
    cases kq with
    | zero => exact absurd HA.out (by simp [trufflelaw06_TokenBack.j0])
    | succ kj3 =>
      have H := HA.out
      clear HA
      simp only [trufflelaw06_TokenBack.j0] at H
      by_cases c7 : x18_3 = true
      · subst c7
        have H1 : (some t296) = some r := by rw [if_pos rfl] at H; exact H
        clear H
        have H := H1
        clear H1
        obtain rfl := Option.some.inj H
        go_wp2
        go_ret
        exact ⟨by first | rfl | (simp [errW_none, errW_some] <;> rfl) | (simp [*, errW_none, errW_some] <;> rfl), by repeat (first | (with_reducible first | exact HB.out | apply below_alloc | apply pw_below_drewN | apply below_drew1) | exact HB.out)⟩
      · replace c7 := Bool.eq_false_iff.mpr c7
        subst c7
        have H1 : ((token_Quote.f a0).bind fun t297 => ((token_Digits.f a1).bind fun t298 => (if t297.size + t298.size ≤ 9223372036854775807 then ((token_All.f (t297 ++ t298)).bind fun bt299 => (if bt299.2.2 = 0 then (if (bt299.1.length : Int) = 2 then (if 0 < (bt299.1.length : Int) then (if (((rd_T29 bt299.1 0).f0) == 2 && ((((rd_T29 bt299.1 0).f1).toList) == a0.toList && (((rd_T29 bt299.1 0).f2) == 0 && (((rd_T29 bt299.1 0).f3) == 0)))) = true then (if 1 < (bt299.1.length : Int) then (some (((rd_T29 bt299.1 1).f0) == 1 && ((((rd_T29 bt299.1 1).f1).toList) == t298.toList && (((rd_T29 bt299.1 1).f2) == a1 && (((rd_T29 bt299.1 1).f3) == (t297.size : Int)))))) else (none)) else (some false)) else (none)) else (some false)) else (some false))) else (none)))) = some r := by rw [if_neg (show ¬ (false = true) by decide)] at H; exact H
        clear H
        have H := H1
        clear H1
        replace H := Option.bind_eq_some_iff.mp H
        obtain ⟨t297, A80, H⟩ := H
        replace H : ((token_Digits.f a1).bind fun t298 => (if t297.size + t298.size ≤ 9223372036854775807 then ((token_All.f (t297 ++ t298)).bind fun bt299 => (if bt299.2.2 = 0 then (if (bt299.1.length : Int) = 2 then (if 0 < (bt299.1.length : Int) then (if (((rd_T29 bt299.1 0).f0) == 2 && ((((rd_T29 bt299.1 0).f1).toList) == a0.toList && (((rd_T29 bt299.1 0).f2) == 0 && (((rd_T29 bt299.1 0).f3) == 0)))) = true then (if 1 < (bt299.1.length : Int) then (some (((rd_T29 bt299.1 1).f0) == 1 && ((((rd_T29 bt299.1 1).f1).toList) == t298.toList && (((rd_T29 bt299.1 1).f2) == a1 && (((rd_T29 bt299.1 1).f3) == (t297.size : Int)))))) else (none)) else (some false)) else (none)) else (some false)) else (some false))) else (none))) = some r := H
        have A8 := Aside0.mk A80
        clear A80
        replace H := Option.bind_eq_some_iff.mp H
        obtain ⟨t298, A90, H⟩ := H
        replace H : (if t297.size + t298.size ≤ 9223372036854775807 then ((token_All.f (t297 ++ t298)).bind fun bt299 => (if bt299.2.2 = 0 then (if (bt299.1.length : Int) = 2 then (if 0 < (bt299.1.length : Int) then (if (((rd_T29 bt299.1 0).f0) == 2 && ((((rd_T29 bt299.1 0).f1).toList) == a0.toList && (((rd_T29 bt299.1 0).f2) == 0 && (((rd_T29 bt299.1 0).f3) == 0)))) = true then (if 1 < (bt299.1.length : Int) then (some (((rd_T29 bt299.1 1).f0) == 1 && ((((rd_T29 bt299.1 1).f1).toList) == t298.toList && (((rd_T29 bt299.1 1).f2) == a1 && (((rd_T29 bt299.1 1).f3) == (t297.size : Int)))))) else (none)) else (some false)) else (none)) else (some false)) else (some false))) else (none)) = some r := H
        have A9 := Aside0.mk A90
        clear A90
        by_cases c10 : t297.size + t298.size ≤ 9223372036854775807
        · rw [if_pos c10] at H
          have c10b0 := eq_true c10
          have c10b1 : decide (t297.size + t298.size ≤ 9223372036854775807) = true := decide_eq_true c10
          try have c10b2 : (9223372036854775807 < t297.size + t298.size) = False := eq_false (Nat.not_lt.2 c10)
          replace H := Option.bind_eq_some_iff.mp H
          obtain ⟨⟨t299, t300, t301⟩, A110, H⟩ := H
          replace H : (if t301 = 0 then (if (t299.length : Int) = 2 then (if 0 < (t299.length : Int) then (if (((rd_T29 t299 0).f0) == 2 && ((((rd_T29 t299 0).f1).toList) == a0.toList && (((rd_T29 t299 0).f2) == 0 && (((rd_T29 t299 0).f3) == 0)))) = true then (if 1 < (t299.length : Int) then (some (((rd_T29 t299 1).f0) == 1 && ((((rd_T29 t299 1).f1).toList) == t298.toList && (((rd_T29 t299 1).f2) == a1 && (((rd_T29 t299 1).f3) == (t297.size : Int)))))) else (none)) else (some false)) else (none)) else (some false)) else (some false)) = some r := H
          have A11 := Aside0.mk A110
          clear A110
          by_cases c12 : t301 = 0
          · rw [if_pos c12] at H
            have c12b0 : (t301 == 0) = true := beq_iff_eq.mpr c12
            have c12b1 : (t301 != 0) = false := bne_eq_false_iff_eq.mpr c12
            clear c12
            by_cases c13 : (t299.length : Int) = 2
            · rw [if_pos c13] at H
              have c13b0 : ((t299.length : Int) == 2) = true := beq_iff_eq.mpr c13
              have c13b1 : ((t299.length : Int) != 2) = false := bne_eq_false_iff_eq.mpr c13
              clear c13
              by_cases c14 : 0 < (t299.length : Int)
              · rw [if_pos c14] at H
                have c14b0 : decide (0 < (t299.length : Int)) = true := decide_eq_true c14
                have c14b1 : decide (0 < t299.length) = true := decide_eq_true (by omega)
                clear c14
                by_cases c15 : (((rd_T29 t299 0).f0) == 2 && ((((rd_T29 t299 0).f1).toList) == a0.toList && (((rd_T29 t299 0).f2) == 0 && (((rd_T29 t299 0).f3) == 0)))) = true
                · rw [if_pos c15] at H
                  have c15b0 : (((rd_T29 t299 0).f0) == 2 && ((((rd_T29 t299 0).f1).toList) == a0.toList && (((rd_T29 t299 0).f2) == 0 && (((rd_T29 t299 0).f3) == 0)))) = true := c15
                  (try (have c15b1 : decide (((rd_T29 t299 0).f0) = 2 && ((((rd_T29 t299 0).f1).toList) == a0.toList && (((rd_T29 t299 0).f2) == 0 && (((rd_T29 t299 0).f3) == 0)))) = true := by simpa using c15))
                  (try (have c15b2 : (((rd_T29 t299 0).f0) == 2 && ((((rd_T29 t299 0).f1).toList) == a0.toList && (((rd_T29 t299 0).f2) == 0 && (((rd_T29 t299 0).f3) == 0)))) = true := by simpa using c15))
                  clear c15
                  by_cases c16 : 1 < (t299.length : Int)
                  · rw [if_pos c16] at H
                    have c16b0 : decide (1 < (t299.length : Int)) = true := decide_eq_true c16
                    have c16b1 : decide (1 < t299.length) = true := decide_eq_true (by omega)
                    clear c16
                    obtain rfl := Option.some.inj H
                    go_wp2_with (first | ((with_reducible refine gate_callee (f := 19) rfl ?_); refine goesL_ (some 21) rfl rfl Tryd.func19 (by kernel_rfl) rfl #[.string a0] rfl (by (try simp only [List.map_toArray, List.map_cons, List.map_nil]); first | done | rfl | (simp only [List.length_drop, List.length_take]; rfl)) ?_; (with_reducible refine (token_Quote.calls a0 t297 _ A8.out).mono ?_); rintro e w17 ⟨rfl, hb⟩; refine ⟨_, rfl, ?_⟩; have n0_ := Aside0.mk (below_step (by repeat (first | (with_reducible first | exact HB.out | apply below_alloc | apply pw_below_drewN | apply below_drew1) | exact HB.out)) hb); clear HB; have HB := n0_; clear n0_; (try clear hb); (try clear hb2); (try clear hk); (try clear hi)) | ((with_reducible refine gate_callee (f := 21) rfl ?_); refine goesL_ (some 23) rfl rfl Tryd.func21 (by kernel_rfl) rfl #[.int .i64 a1] rfl (by (try simp only [List.map_toArray, List.map_cons, List.map_nil]); first | done | rfl | (simp only [List.length_drop, List.length_take]; rfl)) ?_; (with_reducible refine (token_Digits.calls a1 t298 _ ?side1 A9.out).mono ?_); (case side1 => exact hG.below (by repeat (first | (with_reducible first | exact HB.out | apply below_alloc | apply pw_below_drewN | apply below_drew1) | exact HB.out))); rintro e w18 ⟨rfl, hb⟩; refine ⟨_, rfl, ?_⟩; have n0_ := Aside0.mk (below_step (by repeat (first | (with_reducible first | exact HB.out | apply below_alloc | apply pw_below_drewN | apply below_drew1) | exact HB.out)) hb); clear HB; have HB := n0_; clear n0_; (try clear hb); (try clear hb2); (try clear hk); (try clear hi)) | ((with_reducible refine gate_callee (f := 16) rfl ?_); refine goesL_ (some 28) rfl rfl Tryd.func16 (by kernel_rfl) rfl #[.string (t297 ++ t298)] rfl (by (try simp only [List.map_toArray, List.map_cons, List.map_nil]); first | done | rfl | (simp only [List.length_drop, List.length_take]; rfl)) ?_; (with_reducible refine (token_All.calls (t297 ++ t298) t299 t300 t301 _ ?side1 A11.out).mono ?_); (case side1 => exact hG.below (by repeat (first | (with_reducible first | exact HB.out | apply below_alloc | apply pw_below_drewN | apply below_drew1) | exact HB.out))); rintro e w19 ⟨v302, rfl, ho0, hb⟩; refine ⟨_, rfl, ?_⟩; have n0_ := Aside0.mk (Kd.R_lower ho0 (below_size (by repeat (first | (with_reducible first | exact HB.out | apply below_alloc | apply pw_below_drewN | apply below_drew1) | exact HB.out)))); have n1_ := Aside0.mk (below_step (by repeat (first | (with_reducible first | exact HB.out | apply below_alloc | apply pw_below_drewN | apply below_drew1) | exact HB.out)) hb); clear HB; have HO303 := n0_; have HB := n1_; clear n0_ n1_; (try clear hb); (try clear hb2); (try clear hk); (try clear hi); (try clear ho0); obtain ⟨Ao20, co20, eo20⟩ := Kd.R_slice HO303.out; subst eo20; have p304 : 0 ≤ (0 : Int) := (by omega); have q304 : 0 < (t299.length : Int) := of_decide_eq_true (by first | (with_reducible assumption) | assumption); obtain ⟨ad304, e304, hx304_0, hx304_1, hx304_2, hx304_3⟩ := at_T29 (Kd.R_reads' HO303.out).2.2 0 p304 q304; cases e304; have qi304 : (0 < t299.length) = True := eq_true (by omega); (try rw [show ((0 : Int)).toNat = 0 from rfl] at hx304_0); (try rw [show 0 * 4 = 0 from rfl] at hx304_0); (try rw [Addr.add_zero'] at hx304_0); (try rw [show ((0 : Int)).toNat = 0 from rfl] at hx304_1); (try rw [show 0 * 4 = 0 from rfl] at hx304_1); (try rw [Addr.add_zero'] at hx304_1); (try rw [show ((0 : Int)).toNat = 0 from rfl] at hx304_2); (try rw [show 0 * 4 = 0 from rfl] at hx304_2); (try rw [Addr.add_zero'] at hx304_2); (try rw [show ((0 : Int)).toNat = 0 from rfl] at hx304_3); (try rw [show 0 * 4 = 0 from rfl] at hx304_3); (try rw [Addr.add_zero'] at hx304_3); replace p304 := eq_true p304; replace q304 := eq_true q304; have p305 : 0 ≤ (1 : Int) := (by omega); have q305 : 1 < (t299.length : Int) := of_decide_eq_true (by first | (with_reducible assumption) | assumption); obtain ⟨ad305, e305, hx305_0, hx305_1, hx305_2, hx305_3⟩ := at_T29 (Kd.R_reads' HO303.out).2.2 1 p305 q305; obtain rfl : ad304 = ad305 := (by injection e305); (try simp only [show (1 : Int).toNat = 1 from rfl, Nat.reduceMul, Nat.reduceEqDiff, Go.Addr.add, ↓reduceIte] at hx305_0); (try simp only [show (1 : Int).toNat = 1 from rfl, Nat.reduceMul, Nat.reduceEqDiff, Go.Addr.add, ↓reduceIte] at hx305_1); (try simp only [show (1 : Int).toNat = 1 from rfl, Nat.reduceMul, Nat.reduceEqDiff, Go.Addr.add, ↓reduceIte] at hx305_2); (try simp only [show (1 : Int).toNat = 1 from rfl, Nat.reduceMul, Nat.reduceEqDiff, Go.Addr.add, ↓reduceIte] at hx305_3); have qi305 : (1 < t299.length) = True := eq_true (by omega); (try rw [show ((1 : Int)).toNat = 1 from rfl] at hx305_0); (try rw [show 1 * 4 = 4 from rfl] at hx305_0); (try rw [show ((1 : Int)).toNat = 1 from rfl] at hx305_1); (try rw [show 1 * 4 = 4 from rfl] at hx305_1); (try rw [show ((1 : Int)).toNat = 1 from rfl] at hx305_2); (try rw [show 1 * 4 = 4 from rfl] at hx305_2); (try rw [show ((1 : Int)).toNat = 1 from rfl] at hx305_3); (try rw [show 1 * 4 = 4 from rfl] at hx305_3); replace p305 := eq_true p305; replace q305 := eq_true q305))
                    go_ret
                    exact ⟨by first | rfl | (simp [errW_none, errW_some] <;> rfl) | (simp [*, errW_none, errW_some] <;> rfl), by repeat (first | (with_reducible first | exact HB.out | apply below_alloc | apply pw_below_drewN | apply below_drew1) | exact HB.out)⟩
                  · rw [if_neg c16] at H
                    exact absurd H (by simp)
                · rw [if_neg c15] at H
                  have c15b0 : (((rd_T29 t299 0).f0) == 2 && ((((rd_T29 t299 0).f1).toList) == a0.toList && (((rd_T29 t299 0).f2) == 0 && (((rd_T29 t299 0).f3) == 0)))) = false := by simpa using c15
                  (try (have c15b1 : decide (((rd_T29 t299 0).f0) = 2 && ((((rd_T29 t299 0).f1).toList) == a0.toList && (((rd_T29 t299 0).f2) == 0 && (((rd_T29 t299 0).f3) == 0)))) = false := by simpa using c15))
                  (try (have c15b2 : (((rd_T29 t299 0).f0) == 2 && ((((rd_T29 t299 0).f1).toList) == a0.toList && (((rd_T29 t299 0).f2) == 0 && (((rd_T29 t299 0).f3) == 0)))) = false := by simpa using c15))
                  (try (have c15b3 : ¬ (((rd_T29 t299 0).f0) = 2 && ((((rd_T29 t299 0).f1).toList) == a0.toList && (((rd_T29 t299 0).f2) == 0 && (((rd_T29 t299 0).f3) == 0)))) := by simpa using c15))
                  clear c15
                  obtain rfl := Option.some.inj H
                  go_wp2_with (first | ((with_reducible refine gate_callee (f := 19) rfl ?_); refine goesL_ (some 21) rfl rfl Tryd.func19 (by kernel_rfl) rfl #[.string a0] rfl (by (try simp only [List.map_toArray, List.map_cons, List.map_nil]); first | done | rfl | (simp only [List.length_drop, List.length_take]; rfl)) ?_; (with_reducible refine (token_Quote.calls a0 t297 _ A8.out).mono ?_); rintro e w21 ⟨rfl, hb⟩; refine ⟨_, rfl, ?_⟩; have n0_ := Aside0.mk (below_step (by repeat (first | (with_reducible first | exact HB.out | apply below_alloc | apply pw_below_drewN | apply below_drew1) | exact HB.out)) hb); clear HB; have HB := n0_; clear n0_; (try clear hb); (try clear hb2); (try clear hk); (try clear hi)) | ((with_reducible refine gate_callee (f := 21) rfl ?_); refine goesL_ (some 23) rfl rfl Tryd.func21 (by kernel_rfl) rfl #[.int .i64 a1] rfl (by (try simp only [List.map_toArray, List.map_cons, List.map_nil]); first | done | rfl | (simp only [List.length_drop, List.length_take]; rfl)) ?_; (with_reducible refine (token_Digits.calls a1 t298 _ ?side1 A9.out).mono ?_); (case side1 => exact hG.below (by repeat (first | (with_reducible first | exact HB.out | apply below_alloc | apply pw_below_drewN | apply below_drew1) | exact HB.out))); rintro e w22 ⟨rfl, hb⟩; refine ⟨_, rfl, ?_⟩; have n0_ := Aside0.mk (below_step (by repeat (first | (with_reducible first | exact HB.out | apply below_alloc | apply pw_below_drewN | apply below_drew1) | exact HB.out)) hb); clear HB; have HB := n0_; clear n0_; (try clear hb); (try clear hb2); (try clear hk); (try clear hi)) | ((with_reducible refine gate_callee (f := 16) rfl ?_); refine goesL_ (some 28) rfl rfl Tryd.func16 (by kernel_rfl) rfl #[.string (t297 ++ t298)] rfl (by (try simp only [List.map_toArray, List.map_cons, List.map_nil]); first | done | rfl | (simp only [List.length_drop, List.length_take]; rfl)) ?_; (with_reducible refine (token_All.calls (t297 ++ t298) t299 t300 t301 _ ?side1 A11.out).mono ?_); (case side1 => exact hG.below (by repeat (first | (with_reducible first | exact HB.out | apply below_alloc | apply pw_below_drewN | apply below_drew1) | exact HB.out))); rintro e w23 ⟨v302, rfl, ho0, hb⟩; refine ⟨_, rfl, ?_⟩; have n0_ := Aside0.mk (Kd.R_lower ho0 (below_size (by repeat (first | (with_reducible first | exact HB.out | apply below_alloc | apply pw_below_drewN | apply below_drew1) | exact HB.out)))); have n1_ := Aside0.mk (below_step (by repeat (first | (with_reducible first | exact HB.out | apply below_alloc | apply pw_below_drewN | apply below_drew1) | exact HB.out)) hb); clear HB; have HO303 := n0_; have HB := n1_; clear n0_ n1_; (try clear hb); (try clear hb2); (try clear hk); (try clear hi); (try clear ho0); obtain ⟨Ao24, co24, eo24⟩ := Kd.R_slice HO303.out; subst eo24; have p304 : 0 ≤ (0 : Int) := (by omega); have q304 : 0 < (t299.length : Int) := of_decide_eq_true (by first | (with_reducible assumption) | assumption); obtain ⟨ad304, e304, hx304_0, hx304_1, hx304_2, hx304_3⟩ := at_T29 (Kd.R_reads' HO303.out).2.2 0 p304 q304; cases e304; have qi304 : (0 < t299.length) = True := eq_true (by omega); (try rw [show ((0 : Int)).toNat = 0 from rfl] at hx304_0); (try rw [show 0 * 4 = 0 from rfl] at hx304_0); (try rw [Addr.add_zero'] at hx304_0); (try rw [show ((0 : Int)).toNat = 0 from rfl] at hx304_1); (try rw [show 0 * 4 = 0 from rfl] at hx304_1); (try rw [Addr.add_zero'] at hx304_1); (try rw [show ((0 : Int)).toNat = 0 from rfl] at hx304_2); (try rw [show 0 * 4 = 0 from rfl] at hx304_2); (try rw [Addr.add_zero'] at hx304_2); (try rw [show ((0 : Int)).toNat = 0 from rfl] at hx304_3); (try rw [show 0 * 4 = 0 from rfl] at hx304_3); (try rw [Addr.add_zero'] at hx304_3); replace p304 := eq_true p304; replace q304 := eq_true q304))
                  go_ret
                  exact ⟨by first | rfl | (simp [errW_none, errW_some] <;> rfl) | (simp [*, errW_none, errW_some] <;> rfl), by repeat (first | (with_reducible first | exact HB.out | apply below_alloc | apply pw_below_drewN | apply below_drew1) | exact HB.out)⟩
              · rw [if_neg c14] at H
                exact absurd H (by simp)
            · rw [if_neg c13] at H
              have c13b0 : ((t299.length : Int) == 2) = false := beq_eq_false_iff_ne.mpr c13
              have c13b1 : ((t299.length : Int) != 2) = true := bne_iff_ne.mpr c13
              obtain rfl := Option.some.inj H
              go_wp2_with (first | ((with_reducible refine gate_callee (f := 19) rfl ?_); refine goesL_ (some 21) rfl rfl Tryd.func19 (by kernel_rfl) rfl #[.string a0] rfl (by (try simp only [List.map_toArray, List.map_cons, List.map_nil]); first | done | rfl | (simp only [List.length_drop, List.length_take]; rfl)) ?_; (with_reducible refine (token_Quote.calls a0 t297 _ A8.out).mono ?_); rintro e w25 ⟨rfl, hb⟩; refine ⟨_, rfl, ?_⟩; have n0_ := Aside0.mk (below_step (by repeat (first | (with_reducible first | exact HB.out | apply below_alloc | apply pw_below_drewN | apply below_drew1) | exact HB.out)) hb); clear HB; have HB := n0_; clear n0_; (try clear hb); (try clear hb2); (try clear hk); (try clear hi)) | ((with_reducible refine gate_callee (f := 21) rfl ?_); refine goesL_ (some 23) rfl rfl Tryd.func21 (by kernel_rfl) rfl #[.int .i64 a1] rfl (by (try simp only [List.map_toArray, List.map_cons, List.map_nil]); first | done | rfl | (simp only [List.length_drop, List.length_take]; rfl)) ?_; (with_reducible refine (token_Digits.calls a1 t298 _ ?side1 A9.out).mono ?_); (case side1 => exact hG.below (by repeat (first | (with_reducible first | exact HB.out | apply below_alloc | apply pw_below_drewN | apply below_drew1) | exact HB.out))); rintro e w26 ⟨rfl, hb⟩; refine ⟨_, rfl, ?_⟩; have n0_ := Aside0.mk (below_step (by repeat (first | (with_reducible first | exact HB.out | apply below_alloc | apply pw_below_drewN | apply below_drew1) | exact HB.out)) hb); clear HB; have HB := n0_; clear n0_; (try clear hb); (try clear hb2); (try clear hk); (try clear hi)) | ((with_reducible refine gate_callee (f := 16) rfl ?_); refine goesL_ (some 28) rfl rfl Tryd.func16 (by kernel_rfl) rfl #[.string (t297 ++ t298)] rfl (by (try simp only [List.map_toArray, List.map_cons, List.map_nil]); first | done | rfl | (simp only [List.length_drop, List.length_take]; rfl)) ?_; (with_reducible refine (token_All.calls (t297 ++ t298) t299 t300 t301 _ ?side1 A11.out).mono ?_); (case side1 => exact hG.below (by repeat (first | (with_reducible first | exact HB.out | apply below_alloc | apply pw_below_drewN | apply below_drew1) | exact HB.out))); rintro e w27 ⟨v302, rfl, ho0, hb⟩; refine ⟨_, rfl, ?_⟩; have n0_ := Aside0.mk (Kd.R_lower ho0 (below_size (by repeat (first | (with_reducible first | exact HB.out | apply below_alloc | apply pw_below_drewN | apply below_drew1) | exact HB.out)))); have n1_ := Aside0.mk (below_step (by repeat (first | (with_reducible first | exact HB.out | apply below_alloc | apply pw_below_drewN | apply below_drew1) | exact HB.out)) hb); clear HB; have HO303 := n0_; have HB := n1_; clear n0_ n1_; (try clear hb); (try clear hb2); (try clear hk); (try clear hi); (try clear ho0); obtain ⟨Ao28, co28, eo28⟩ := Kd.R_slice HO303.out; subst eo28))
              go_ret
              exact ⟨by first | rfl | (simp [errW_none, errW_some] <;> rfl) | (simp [*, errW_none, errW_some] <;> rfl), by repeat (first | (with_reducible first | exact HB.out | apply below_alloc | apply pw_below_drewN | apply below_drew1) | exact HB.out)⟩
          · rw [if_neg c12] at H
            have c12b0 : (t301 == 0) = false := beq_eq_false_iff_ne.mpr c12
            have c12b1 : (t301 != 0) = true := bne_iff_ne.mpr c12
            obtain rfl := Option.some.inj H
            go_wp2_with (first | ((with_reducible refine gate_callee (f := 19) rfl ?_); refine goesL_ (some 21) rfl rfl Tryd.func19 (by kernel_rfl) rfl #[.string a0] rfl (by (try simp only [List.map_toArray, List.map_cons, List.map_nil]); first | done | rfl | (simp only [List.length_drop, List.length_take]; rfl)) ?_; (with_reducible refine (token_Quote.calls a0 t297 _ A8.out).mono ?_); rintro e w29 ⟨rfl, hb⟩; refine ⟨_, rfl, ?_⟩; have n0_ := Aside0.mk (below_step (by repeat (first | (with_reducible first | exact HB.out | apply below_alloc | apply pw_below_drewN | apply below_drew1) | exact HB.out)) hb); clear HB; have HB := n0_; clear n0_; (try clear hb); (try clear hb2); (try clear hk); (try clear hi)) | ((with_reducible refine gate_callee (f := 21) rfl ?_); refine goesL_ (some 23) rfl rfl Tryd.func21 (by kernel_rfl) rfl #[.int .i64 a1] rfl (by (try simp only [List.map_toArray, List.map_cons, List.map_nil]); first | done | rfl | (simp only [List.length_drop, List.length_take]; rfl)) ?_; (with_reducible refine (token_Digits.calls a1 t298 _ ?side1 A9.out).mono ?_); (case side1 => exact hG.below (by repeat (first | (with_reducible first | exact HB.out | apply below_alloc | apply pw_below_drewN | apply below_drew1) | exact HB.out))); rintro e w30 ⟨rfl, hb⟩; refine ⟨_, rfl, ?_⟩; have n0_ := Aside0.mk (below_step (by repeat (first | (with_reducible first | exact HB.out | apply below_alloc | apply pw_below_drewN | apply below_drew1) | exact HB.out)) hb); clear HB; have HB := n0_; clear n0_; (try clear hb); (try clear hb2); (try clear hk); (try clear hi)) | ((with_reducible refine gate_callee (f := 16) rfl ?_); refine goesL_ (some 28) rfl rfl Tryd.func16 (by kernel_rfl) rfl #[.string (t297 ++ t298)] rfl (by (try simp only [List.map_toArray, List.map_cons, List.map_nil]); first | done | rfl | (simp only [List.length_drop, List.length_take]; rfl)) ?_; (with_reducible refine (token_All.calls (t297 ++ t298) t299 t300 t301 _ ?side1 A11.out).mono ?_); (case side1 => exact hG.below (by repeat (first | (with_reducible first | exact HB.out | apply below_alloc | apply pw_below_drewN | apply below_drew1) | exact HB.out))); rintro e w31 ⟨v302, rfl, ho0, hb⟩; refine ⟨_, rfl, ?_⟩; have n0_ := Aside0.mk (Kd.R_lower ho0 (below_size (by repeat (first | (with_reducible first | exact HB.out | apply below_alloc | apply pw_below_drewN | apply below_drew1) | exact HB.out)))); have n1_ := Aside0.mk (below_step (by repeat (first | (with_reducible first | exact HB.out | apply below_alloc | apply pw_below_drewN | apply below_drew1) | exact HB.out)) hb); clear HB; have HO303 := n0_; have HB := n1_; clear n0_ n1_; (try clear hb); (try clear hb2); (try clear hk); (try clear hi); (try clear ho0)))
            go_ret
            exact ⟨by first | rfl | (simp [errW_none, errW_some] <;> rfl) | (simp [*, errW_none, errW_some] <;> rfl), by repeat (first | (with_reducible first | exact HB.out | apply below_alloc | apply pw_below_drewN | apply below_drew1) | exact HB.out)⟩
        · rw [if_neg c10] at H
          exact absurd H (by simp)

/-- THE ONE PURE STATEMENT of trufflelaw06_TokenBack: yours. -/
def trufflelaw06_TokenBack.Pure : Prop := ∀ (a0 : ByteArray) (a1 : Int), a0.size ≤ 140737488351232 → (Lit.int .i64 a1).wf = true → ∃ k, trufflelaw06_TokenBack.f k a0 a1 = some true
theorem trufflelaw06_TokenBack.walk (P : trufflelaw06_TokenBack.Pure) (a0 : ByteArray) (a1 : Int) (w : World) (w0 : a0.size ≤ 140737488351232) (w1 : (Lit.int .i64 a1).wf = true) (hG : GInv w) :
    Calls Tryd.prog 7 #[.string a0, .int .i64 a1] w fun e w' => e = .returned (.bool true) ∧ Below w.heap.size w w' := by
  obtain ⟨k, h⟩ := P a0 a1 w0 w1
  refine (trufflelaw06_TokenBack.calls k a0 a1 true w hG h).mono ?_
  rintro e w' ⟨rfl, hd⟩
  exact ⟨rfl, hd⟩

/-! ### trufflelaw06_TokenQuote: function 8 -/
mutual
def trufflelaw06_TokenQuote.j0 : Nat → ByteArray → ByteArray → Int → Int → Bool → Bool → Option (Bool)
  | 0, _, _, _, _, _, _ => none
  | k + 1, x0, x1, x2, x3, x9, x24 => if x24 = true then (some x9) else ((token_Quote.f x0).bind fun t307 => (trufflelaw06_TokenQuote.l0 k x0 x1 x2 x3 t307 0))
def trufflelaw06_TokenQuote.l0 : Nat → ByteArray → ByteArray → Int → Int → ByteArray → Int → Option (Bool)
  | 0, _, _, _, _, _, _ => none
  | k + 1, x0, x1, x2, x3, x10, x11 => if x11 < (x10.size : Int) then (if 0 ≤ x11 then (if (bt x10 x11) < 32 then (some false) else (if (bt x10 x11) > 126 then (some false) else (trufflelaw06_TokenQuote.l0 k x0 x1 x2 x3 x10 (wrap64 (x11 + 1))))) else (none)) else ((token_Quote.f x1).bind fun t308 => (if ((x10.toList == t308.toList) == (x0.toList == x1.toList)) = true then ((token_Digits.f x2).bind fun t309 => ((token_Digits.f x3).bind fun t310 => (some ((t309.toList == t310.toList) == (x2 == x3))))) else (some false)))
end
def trufflelaw06_TokenQuote.f (k : Nat) (a0 : ByteArray) (a1 : ByteArray) (a2 : Int) (a3 : Int) : Option (Bool) := (trufflelaw06_awake.f).bind fun t306 => (if t306 = true then (if (a0.size : Int) > 1000 then (trufflelaw06_TokenQuote.j0 k a0 a1 a2 a3 t306 true) else (trufflelaw06_TokenQuote.j0 k a0 a1 a2 a3 t306 (decide ((a1.size : Int) > 1000)))) else (trufflelaw06_TokenQuote.j0 k a0 a1 a2 a3 t306 true))
theorem trufflelaw06_TokenQuote.mono_l : ∀ k, (∀ y0 y1 y2 y3 y4 y5, LeO (trufflelaw06_TokenQuote.j0 k y0 y1 y2 y3 y4 y5) (trufflelaw06_TokenQuote.j0 (k + 1) y0 y1 y2 y3 y4 y5)) ∧ (∀ y0 y1 y2 y3 y4 y5, LeO (trufflelaw06_TokenQuote.l0 k y0 y1 y2 y3 y4 y5) (trufflelaw06_TokenQuote.l0 (k + 1) y0 y1 y2 y3 y4 y5))
  | 0 => ⟨fun _ _ _ _ _ _ r h => by simp [trufflelaw06_TokenQuote.j0] at h, fun _ _ _ _ _ _ r h => by simp [trufflelaw06_TokenQuote.l0] at h⟩
  | k + 1 => by
    obtain ⟨ih0, ih1⟩ := trufflelaw06_TokenQuote.mono_l k
    refine ⟨?_, ?_⟩
    · intro y0 y1 y2 y3 y4 y5
      unfold trufflelaw06_TokenQuote.j0
      repeat' first
      | (with_reducible exact ih0 _ _ _ _ _ _)
      | (with_reducible exact ih1 _ _ _ _ _ _)
      | (with_reducible exact LeO.refl _)
      | (with_reducible exact LeO.none _)
      | (with_reducible refine LeO.ite ?_ ?_)
      | (with_reducible refine LeO.bind ?_ (fun _ => ?_))
      | exact ih0 _ _ _ _ _ _
      | exact ih1 _ _ _ _ _ _
      | exact LeO.none _
      | refine LeO.ite ?_ ?_
      | refine LeO.bind ?_ (fun _ => ?_)
    · intro y0 y1 y2 y3 y4 y5
      unfold trufflelaw06_TokenQuote.l0
      repeat' first
      | (with_reducible exact ih0 _ _ _ _ _ _)
      | (with_reducible exact ih1 _ _ _ _ _ _)
      | (with_reducible exact LeO.refl _)
      | (with_reducible exact LeO.none _)
      | (with_reducible refine LeO.ite ?_ ?_)
      | (with_reducible refine LeO.bind ?_ (fun _ => ?_))
      | exact ih0 _ _ _ _ _ _
      | exact ih1 _ _ _ _ _ _
      | exact LeO.none _
      | refine LeO.ite ?_ ?_
      | refine LeO.bind ?_ (fun _ => ?_)
theorem trufflelaw06_TokenQuote.mono : ∀ a0 a1 a2 a3 k, LeO (trufflelaw06_TokenQuote.f k a0 a1 a2 a3) (trufflelaw06_TokenQuote.f (k + 1) a0 a1 a2 a3) := by
  intro a0 a1 a2 a3 k
  obtain ⟨ih0, ih1⟩ := trufflelaw06_TokenQuote.mono_l k
  unfold trufflelaw06_TokenQuote.f
  repeat' first
      | (with_reducible exact ih0 _ _ _ _ _ _)
      | (with_reducible exact ih1 _ _ _ _ _ _)
      | (with_reducible exact LeO.refl _)
      | (with_reducible exact LeO.none _)
      | (with_reducible refine LeO.ite ?_ ?_)
      | (with_reducible refine LeO.bind ?_ (fun _ => ?_))
      | exact ih0 _ _ _ _ _ _
      | exact ih1 _ _ _ _ _ _
      | exact LeO.none _
      | refine LeO.ite ?_ ?_
      | refine LeO.bind ?_ (fun _ => ?_)
set_option maxHeartbeats 8000000 in
set_option maxRecDepth 100000 in
theorem trufflelaw06_TokenQuote.calls (k : Nat) (a0 : ByteArray) (a1 : ByteArray) (a2 : Int) (a3 : Int) (r : Bool) (w : World) (hG : GInv w) (h : trufflelaw06_TokenQuote.f k a0 a1 a2 a3 = some r) :
    Calls Tryd.prog 8 #[.string a0, .string a1, .int .i64 a2, .int .i64 a3] w fun e w' => e = .returned (.bool r) ∧ Below w.heap.size w w' := by
  have HB := Aside0.mk (Below.refl w.heap.size w)
  have H : ((trufflelaw06_awake.f).bind fun t306 => (if t306 = true then (if (a0.size : Int) > 1000 then (trufflelaw06_TokenQuote.j0 k a0 a1 a2 a3 t306 true) else (trufflelaw06_TokenQuote.j0 k a0 a1 a2 a3 t306 (decide ((a1.size : Int) > 1000)))) else (trufflelaw06_TokenQuote.j0 k a0 a1 a2 a3 t306 true))) = some r := h
  clear h
  replace H := Option.bind_eq_some_iff.mp H
  obtain ⟨t306, A50, H⟩ := H
  replace H : (if t306 = true then (if (a0.size : Int) > 1000 then (trufflelaw06_TokenQuote.j0 k a0 a1 a2 a3 t306 true) else (trufflelaw06_TokenQuote.j0 k a0 a1 a2 a3 t306 (decide ((a1.size : Int) > 1000)))) else (trufflelaw06_TokenQuote.j0 k a0 a1 a2 a3 t306 true)) = some r := H
  have A5 := Aside0.mk A50
  clear A50
  have HC6 := Aside0.mk H
  clear H
  go_enter Tryd.func8, Tryd.ntmps8
  go_upto_region 2 with (first | ((with_reducible refine gate_callee (f := 15) rfl ?_); refine goesL_ (some 12) rfl rfl Tryd.func15 (by kernel_rfl) rfl #[] rfl (by (try simp only [List.map_toArray, List.map_cons, List.map_nil]); first | done | rfl | (simp only [List.length_drop, List.length_take]; rfl)) ?_; (with_reducible refine (trufflelaw06_awake.calls  t306 _ ?side1 A5.out).mono ?_); (case side1 => exact hG.below (by repeat (first | (with_reducible first | exact HB.out | apply below_alloc | apply pw_below_drewN | apply below_drew1) | exact HB.out))); rintro e w7 ⟨rfl, hb⟩; refine ⟨_, rfl, ?_⟩; have n0_ := Aside0.mk (below_step (by repeat (first | (with_reducible first | exact HB.out | apply below_alloc | apply pw_below_drewN | apply below_drew1) | exact HB.out)) hb); clear HB; have HB := n0_; clear n0_; (try clear hb); (try clear hb2); (try clear hk); (try clear hi)))
  (try simp only [Act.put, List.setIfInBounds_toArray, List.set_cons_zero, List.set_cons_succ])
  go_cut [24] (fun v24 wc => ∃ (kq : Nat) (x24_5 : Bool), v24 = .bool x24_5 ∧ Aside0 (trufflelaw06_TokenQuote.j0 kq a0 a1 a2 a3 t306 x24_5 = some r) ∧ Aside0 (kq ≤ k) ∧ Aside0 (Below w.heap.size w wc))
  case first =>
    have H := HC6.out
    clear HC6
    by_cases c8 : t306 = true
    · subst c8
      have H1 : (if (a0.size : Int) > 1000 then (trufflelaw06_TokenQuote.j0 k a0 a1 a2 a3 true true) else (trufflelaw06_TokenQuote.j0 k a0 a1 a2 a3 true (decide ((a1.size : Int) > 1000)))) = some r := by rw [if_pos rfl] at H; exact H
      clear H
      have H := H1
      clear H1
      by_cases c9 : (a0.size : Int) > 1000
      · rw [if_pos c9] at H
        have c9b0 : decide (1000 < (a0.size : Int)) = true := decide_eq_true c9
        have c9b1 : decide (1000 < a0.size) = true := decide_eq_true (by omega)
        clear c9
        (first | rw [c9b0] | (simp only [i64_w, i32_w]; rw [c9b0]) | skip)
        have H' := Aside0.mk H
        clear H
        go_wp2
        go_meet
        case rel => exact ⟨_, (true), (by first | rfl | (simp; done) | (simp [*]; done)), H', ⟨by first | omega | exact Nat.le_refl _⟩, ⟨by repeat (first | (with_reducible first | exact HB.out | apply below_alloc | apply pw_below_drewN | apply below_drew1) | exact HB.out)⟩⟩
      · rw [if_neg c9] at H
        have c9b0 : decide (1000 < (a0.size : Int)) = false := decide_eq_false c9
        have c9b1 : decide (1000 < a0.size) = false := decide_eq_false (by omega)
        clear c9
        (first | rw [c9b0] | (simp only [i64_w, i32_w]; rw [c9b0]) | skip)
        have H' := Aside0.mk H
        clear H
        go_wp2
        go_meet
        case rel => exact ⟨_, (decide ((a1.size : Int) > 1000)), (by first | rfl | (simp; done) | (simp [*]; done)), H', ⟨by first | omega | exact Nat.le_refl _⟩, ⟨by repeat (first | (with_reducible first | exact HB.out | apply below_alloc | apply pw_below_drewN | apply below_drew1) | exact HB.out)⟩⟩
    · replace c8 := Bool.eq_false_iff.mpr c8
      subst c8
      have H1 : (trufflelaw06_TokenQuote.j0 k a0 a1 a2 a3 false true) = some r := by rw [if_neg (show ¬ (false = true) by decide)] at H; exact H
      clear H
      have H := H1
      clear H1
      have H' := Aside0.mk H
      clear H
      go_wp2
      go_meet
      case rel => exact ⟨_, (true), (by first | rfl | (simp; done) | (simp [*]; done)), H', ⟨by first | omega | exact Nat.le_refl _⟩, ⟨by repeat (first | (with_reducible first | exact HB.out | apply below_alloc | apply pw_below_drewN | apply below_drew1) | exact HB.out)⟩⟩
  case rest =>
    clear HC6
    try clear c1
    try clear p2
    try clear c8
    try clear c9
    try clear c9b0
    try clear c9b1
    obtain ⟨kq, x24_5, rfl, HA, HJ5, HB⟩ := hcut
    cases kq with
    | zero => exact absurd HA.out (by simp [trufflelaw06_TokenQuote.j0])
    | succ kj5 =>
      have H := HA.out
      clear HA
      simp only [trufflelaw06_TokenQuote.j0] at H
      by_cases c10 : x24_5 = true
      · subst c10
        have H1 : (some t306) = some r := by rw [if_pos rfl] at H; exact H
        clear H
        have H := H1
        clear H1
        obtain rfl := Option.some.inj H
        go_wp2
        go_ret
        exact ⟨by first | rfl | (simp [errW_none, errW_some] <;> rfl) | (simp [*, errW_none, errW_some] <;> rfl), by repeat (first | (with_reducible first | exact HB.out | apply below_alloc | apply pw_below_drewN | apply below_drew1) | exact HB.out)⟩
      · replace c10 := Bool.eq_false_iff.mpr c10
        subst c10
        have H1 : ((token_Quote.f a0).bind fun t307 => (trufflelaw06_TokenQuote.l0 kj5 a0 a1 a2 a3 t307 0)) = some r := by rw [if_neg (show ¬ (false = true) by decide)] at H; exact H
        clear H
        have H := H1
        clear H1
        replace H := Option.bind_eq_some_iff.mp H
        obtain ⟨t307, A110, H⟩ := H
        replace H : (trufflelaw06_TokenQuote.l0 kj5 a0 a1 a2 a3 t307 0) = some r := H
        have A11 := Aside0.mk A110
        clear A110
        have H' := Aside0.mk H
        clear H
        go_wp2_with (first | ((with_reducible refine gate_callee (f := 19) rfl ?_); refine goesL_ (some 27) rfl rfl Tryd.func19 (by kernel_rfl) rfl #[.string a0] rfl (by (try simp only [List.map_toArray, List.map_cons, List.map_nil]); first | done | rfl | (simp only [List.length_drop, List.length_take]; rfl)) ?_; (with_reducible refine (token_Quote.calls a0 t307 _ A11.out).mono ?_); rintro e w12 ⟨rfl, hb⟩; refine ⟨_, rfl, ?_⟩; have n0_ := Aside0.mk (below_step (by repeat (first | (with_reducible first | exact HB.out | apply below_alloc | apply pw_below_drewN | apply below_drew1) | exact HB.out)) hb); clear HB; have HB := n0_; clear n0_; (try clear hb); (try clear hb2); (try clear hk); (try clear hi)))
        go_loopg [11] kj5 (fun kq v11 w' => ∃ (x11_2 : Int), v11 = .int .i64 x11_2 ∧ Aside0 (trufflelaw06_TokenQuote.l0 kq a0 a1 a2 a3 t307 x11_2 = some r) ∧ Aside0 (kq ≤ kj5) ∧ Aside0 (Below w.heap.size w w'))
        case atStart => exact ⟨(0), (by first | rfl | (simp; done) | (simp [*]; done)), H', ⟨Nat.le_refl _⟩, ⟨by repeat (first | (with_reducible first | exact HB.out | apply below_alloc | apply pw_below_drewN | apply below_drew1) | exact HB.out)⟩⟩
        case round =>
          clear H'
          try clear c1
          try clear p2
          try clear c8
          try clear c9
          try clear c9b0
          try clear c9b1
          try clear c10
          try clear p2
          obtain ⟨x11_2, rfl, HA, HK2, HB⟩ := hrel
          cases gk with
          | zero => exact absurd HA.out (by simp [trufflelaw06_TokenQuote.l0])
          | succ k2 =>
            have H := HA.out
            clear HA
            simp only [trufflelaw06_TokenQuote.l0] at H
            by_cases c13 : x11_2 < (t307.size : Int)
            · rw [if_pos c13] at H
              have c13b0 : decide (x11_2 < (t307.size : Int)) = true := decide_eq_true c13
              clear c13
              by_cases c14 : 0 ≤ x11_2
              · rw [if_pos c14] at H
                have c14b0 : decide (0 ≤ x11_2) = true := decide_eq_true c14
                clear c14
                by_cases c16 : (bt t307 x11_2) < 32
                · rw [if_pos c16] at H
                  have c16b0 : decide ((bt t307 x11_2) < 32) = true := decide_eq_true c16
                  clear c16
                  obtain rfl := Option.some.inj H
                  have p15 : 0 ≤ (x11_2 : Int) := of_decide_eq_true (by first | (with_reducible assumption) | assumption)
                  have q15 : x11_2 < (t307.size : Int) := of_decide_eq_true (by first | (with_reducible assumption) | assumption)
                  have hx15 := bt_at t307 x11_2
                  replace p15 := eq_true p15
                  replace q15 := eq_true q15
                  go_wp2
                  go_ret
                  exact ⟨by first | rfl | (simp [errW_none, errW_some] <;> rfl) | (simp [*, errW_none, errW_some] <;> rfl), by repeat (first | (with_reducible first | exact HB.out | apply below_alloc | apply pw_below_drewN | apply below_drew1) | exact HB.out)⟩
                · rw [if_neg c16] at H
                  have c16b0 : decide ((bt t307 x11_2) < 32) = false := decide_eq_false c16
                  clear c16
                  by_cases c18 : (bt t307 x11_2) > 126
                  · rw [if_pos c18] at H
                    have c18b0 : decide (126 < (bt t307 x11_2)) = true := decide_eq_true c18
                    clear c18
                    obtain rfl := Option.some.inj H
                    have p15 : 0 ≤ (x11_2 : Int) := of_decide_eq_true (by first | (with_reducible assumption) | assumption)
                    have q15 : x11_2 < (t307.size : Int) := of_decide_eq_true (by first | (with_reducible assumption) | assumption)
                    have hx15 := bt_at t307 x11_2
                    replace p15 := eq_true p15
                    replace q15 := eq_true q15
                    have p17 : 0 ≤ (x11_2 : Int) := of_decide_eq_true (by first | (with_reducible assumption) | assumption)
                    have q17 : x11_2 < (t307.size : Int) := of_decide_eq_true (by first | (with_reducible assumption) | assumption)
                    have hx17 := bt_at t307 x11_2
                    replace p17 := eq_true p17
                    replace q17 := eq_true q17
                    go_wp2
                    go_ret
                    exact ⟨by first | rfl | (simp [errW_none, errW_some] <;> rfl) | (simp [*, errW_none, errW_some] <;> rfl), by repeat (first | (with_reducible first | exact HB.out | apply below_alloc | apply pw_below_drewN | apply below_drew1) | exact HB.out)⟩
                  · rw [if_neg c18] at H
                    have c18b0 : decide (126 < (bt t307 x11_2)) = false := decide_eq_false c18
                    clear c18
                    have H' := Aside0.mk H
                    clear H
                    have p15 : 0 ≤ (x11_2 : Int) := of_decide_eq_true (by first | (with_reducible assumption) | assumption)
                    have q15 : x11_2 < (t307.size : Int) := of_decide_eq_true (by first | (with_reducible assumption) | assumption)
                    have hx15 := bt_at t307 x11_2
                    replace p15 := eq_true p15
                    replace q15 := eq_true q15
                    have p17 : 0 ≤ (x11_2 : Int) := of_decide_eq_true (by first | (with_reducible assumption) | assumption)
                    have q17 : x11_2 < (t307.size : Int) := of_decide_eq_true (by first | (with_reducible assumption) | assumption)
                    have hx17 := bt_at t307 x11_2
                    replace p17 := eq_true p17
                    replace q17 := eq_true q17
                    go_wp2
                    go_roundg k2
                    case measure => have := HJ5.out; have := HK2.out; omega
                    case rel => exact ⟨(wrap64 (x11_2 + 1)), (by first | rfl | (simp; done) | (simp [*]; done)), H', ⟨by have := HJ5.out; have := HK2.out; omega⟩, ⟨by repeat (first | (with_reducible first | exact HB.out | apply below_alloc | apply pw_below_drewN | apply below_drew1) | exact HB.out)⟩⟩
              · rw [if_neg c14] at H
                exact absurd H (by simp)
            · rw [if_neg c13] at H
              have c13b0 : decide (x11_2 < (t307.size : Int)) = false := decide_eq_false c13
              clear c13
              replace H := Option.bind_eq_some_iff.mp H
              obtain ⟨t308, A190, H⟩ := H
              replace H : (if ((t307.toList == t308.toList) == (a0.toList == a1.toList)) = true then ((token_Digits.f a2).bind fun t309 => ((token_Digits.f a3).bind fun t310 => (some ((t309.toList == t310.toList) == (a2 == a3))))) else (some false)) = some r := H
              have A19 := Aside0.mk A190
              clear A190
              by_cases c20 : ((t307.toList == t308.toList) == (a0.toList == a1.toList)) = true
              · rw [if_pos c20] at H
                have c20b0 : ((t307.toList == t308.toList) == (a0.toList == a1.toList)) = true := c20
                (try (have c20b1 : decide ((t307.toList == t308.toList) = (a0.toList == a1.toList)) = true := by simpa using c20))
                (try (have c20b2 : ((t307.toList == t308.toList) == (a0.toList == a1.toList)) = true := by simpa using c20))
                clear c20
                replace H := Option.bind_eq_some_iff.mp H
                obtain ⟨t309, A210, H⟩ := H
                replace H : ((token_Digits.f a3).bind fun t310 => (some ((t309.toList == t310.toList) == (a2 == a3)))) = some r := H
                have A21 := Aside0.mk A210
                clear A210
                replace H := Option.bind_eq_some_iff.mp H
                obtain ⟨t310, A220, H⟩ := H
                replace H : (some ((t309.toList == t310.toList) == (a2 == a3))) = some r := H
                have A22 := Aside0.mk A220
                clear A220
                obtain rfl := Option.some.inj H
                go_wp2_with (first | ((with_reducible refine gate_callee (f := 19) rfl ?_); refine goesL_ (some 46) rfl rfl Tryd.func19 (by kernel_rfl) rfl #[.string a1] rfl (by (try simp only [List.map_toArray, List.map_cons, List.map_nil]); first | done | rfl | (simp only [List.length_drop, List.length_take]; rfl)) ?_; (with_reducible refine (token_Quote.calls a1 t308 _ A19.out).mono ?_); rintro e w23 ⟨rfl, hb⟩; refine ⟨_, rfl, ?_⟩; have n0_ := Aside0.mk (below_step (by repeat (first | (with_reducible first | exact HB.out | apply below_alloc | apply pw_below_drewN | apply below_drew1) | exact HB.out)) hb); clear HB; have HB := n0_; clear n0_; (try clear hb); (try clear hb2); (try clear hk); (try clear hi)) | (go_at_call 21; (with_reducible refine (token_Digits.calls a2 t309 _ ?side1 A21.out).mono ?_); (case side1 => exact hG.below (by repeat (first | (with_reducible first | exact HB.out | apply below_alloc | apply pw_below_drewN | apply below_drew1) | exact HB.out))); rintro e w24 ⟨rfl, hb⟩; have n0_ := Aside0.mk (below_step (by repeat (first | (with_reducible first | exact HB.out | apply below_alloc | apply pw_below_drewN | apply below_drew1) | exact HB.out)) hb); clear HB; have HB := n0_; clear n0_; (try clear hb); (try clear hb2); (try clear hk); (try clear hi)) | (go_at_call 21; (with_reducible refine (token_Digits.calls a3 t310 _ ?side1 A22.out).mono ?_); (case side1 => exact hG.below (by repeat (first | (with_reducible first | exact HB.out | apply below_alloc | apply pw_below_drewN | apply below_drew1) | exact HB.out))); rintro e w25 ⟨rfl, hb⟩; have n0_ := Aside0.mk (below_step (by repeat (first | (with_reducible first | exact HB.out | apply below_alloc | apply pw_below_drewN | apply below_drew1) | exact HB.out)) hb); clear HB; have HB := n0_; clear n0_; (try clear hb); (try clear hb2); (try clear hk); (try clear hi)))
                go_ret
                exact ⟨by first | rfl | (simp [errW_none, errW_some] <;> rfl) | (simp [*, errW_none, errW_some] <;> rfl), by repeat (first | (with_reducible first | exact HB.out | apply below_alloc | apply pw_below_drewN | apply below_drew1) | exact HB.out)⟩
              · rw [if_neg c20] at H
                have c20b0 : ((t307.toList == t308.toList) == (a0.toList == a1.toList)) = false := by simpa using c20
                (try (have c20b1 : decide ((t307.toList == t308.toList) = (a0.toList == a1.toList)) = false := by simpa using c20))
                (try (have c20b2 : ((t307.toList == t308.toList) == (a0.toList == a1.toList)) = false := by simpa using c20))
                (try (have c20b3 : ¬ ((t307.toList == t308.toList) = (a0.toList == a1.toList)) := by simpa using c20))
                clear c20
                obtain rfl := Option.some.inj H
                go_wp2_with (first | ((with_reducible refine gate_callee (f := 19) rfl ?_); refine goesL_ (some 46) rfl rfl Tryd.func19 (by kernel_rfl) rfl #[.string a1] rfl (by (try simp only [List.map_toArray, List.map_cons, List.map_nil]); first | done | rfl | (simp only [List.length_drop, List.length_take]; rfl)) ?_; (with_reducible refine (token_Quote.calls a1 t308 _ A19.out).mono ?_); rintro e w26 ⟨rfl, hb⟩; refine ⟨_, rfl, ?_⟩; have n0_ := Aside0.mk (below_step (by repeat (first | (with_reducible first | exact HB.out | apply below_alloc | apply pw_below_drewN | apply below_drew1) | exact HB.out)) hb); clear HB; have HB := n0_; clear n0_; (try clear hb); (try clear hb2); (try clear hk); (try clear hi)))
                go_ret
                exact ⟨by first | rfl | (simp [errW_none, errW_some] <;> rfl) | (simp [*, errW_none, errW_some] <;> rfl), by repeat (first | (with_reducible first | exact HB.out | apply below_alloc | apply pw_below_drewN | apply below_drew1) | exact HB.out)⟩

/-- THE ONE PURE STATEMENT of trufflelaw06_TokenQuote: yours. -/
def trufflelaw06_TokenQuote.Pure : Prop := ∀ (a0 : ByteArray) (a1 : ByteArray) (a2 : Int) (a3 : Int), a0.size ≤ 140737488351232 → a1.size ≤ 140737488351232 → (Lit.int .i64 a2).wf = true → (Lit.int .i64 a3).wf = true → ∃ k, trufflelaw06_TokenQuote.f k a0 a1 a2 a3 = some true
theorem trufflelaw06_TokenQuote.walk (P : trufflelaw06_TokenQuote.Pure) (a0 : ByteArray) (a1 : ByteArray) (a2 : Int) (a3 : Int) (w : World) (w0 : a0.size ≤ 140737488351232) (w1 : a1.size ≤ 140737488351232) (w2 : (Lit.int .i64 a2).wf = true) (w3 : (Lit.int .i64 a3).wf = true) (hG : GInv w) :
    Calls Tryd.prog 8 #[.string a0, .string a1, .int .i64 a2, .int .i64 a3] w fun e w' => e = .returned (.bool true) ∧ Below w.heap.size w w' := by
  obtain ⟨k, h⟩ := P a0 a1 a2 a3 w0 w1 w2 w3
  refine (trufflelaw06_TokenQuote.calls k a0 a1 a2 a3 true w hG h).mono ?_
  rintro e w' ⟨rfl, hd⟩
  exact ⟨rfl, hd⟩

end Go.Proofs.YtngcojabofkbjaaDoor.P
