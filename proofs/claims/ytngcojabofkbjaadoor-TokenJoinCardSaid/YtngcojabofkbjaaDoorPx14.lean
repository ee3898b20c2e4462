-- PRINTED by a program of this session (wip/mp.py over the kit's print) out of the translation. Not trusted: Lean checks it.
import Derived.Test.YtngcojabofkbjaaDoorPx0
import Derived.Test.YtngcojabofkbjaaDoorPx1
import Derived.Test.YtngcojabofkbjaaDoorPx7
import Derived.Test.YtngcojabofkbjaaDoorGGInv
import Derived.Test.YtngcojabofkbjaaDoorGLex
namespace Go.Proofs.YtngcojabofkbjaaDoor.P
open Go.RowKit Go.Proofs.YtngcojabofkbjaaDoorW.PrintWords Go.Proofs.YtngcojabofkbjaaDoorW.PrintLast Go.Proofs.YtngcojabofkbjaaDoorW.PrintMore
attribute [local go_sem] max2_int min2_int max_two min_two max_three min_three max_four min_four   -- for this text's walks alone
set_option linter.unusedVariables false
set_option linter.unusedSimpArgs false

attribute [local go_sem high] eqA29
/-! ### trufflelaw06_TokenJoin: function 5 -/
mutual
def trufflelaw06_TokenJoin.j0 : Nat → ByteArray → ByteArray → Bool → Bool → Option (Bool)
  | 0, _, _, _, _ => none
  | k + 1, x0, x1, x5, x28 => if x28 = true then (some x5) else ((token_All.f x0).bind fun bt273 => ((token_All.f x1).bind fun bt278 => (if x0.size + 1 ≤ 9223372036854775807 then (if (x0 ++ (⟨#[10]⟩ : ByteArray)).size + x1.size ≤ 9223372036854775807 then ((token_All.f ((x0 ++ (⟨#[10]⟩ : ByteArray)) ++ x1)).bind fun bt283 => (if bt273.2.2 = 0 then (if bt278.2.2 = bt283.2.2 then (if bt283.2.1 = (wrap64 ((wrap64 (bt278.2.1 + (x0.size : Int))) + 1)) then (if bt283.2.2 = 0 then (trufflelaw06_TokenJoin.j1 k x0 bt273.1 bt278.1 bt283.1 ((bt283.1.length : Int) != (wrap64 ((bt273.1.length : Int) + (bt278.1.length : Int))))) else (trufflelaw06_TokenJoin.j1 k x0 bt273.1 bt278.1 bt283.1 false)) else (trufflelaw06_TokenJoin.j1 k x0 bt273.1 bt278.1 bt283.1 true)) else (trufflelaw06_TokenJoin.j1 k x0 bt273.1 bt278.1 bt283.1 true)) else (some true))) else (none)) else (none))))
def trufflelaw06_TokenJoin.j1 : Nat → ByteArray → List (S29) → List (S29) → List (S29) → Bool → Option (Bool)
  | 0, _, _, _, _, _ => none
  | k + 1, x0, x6, x9, x12, x78 => if x78 = true then (some false) else (trufflelaw06_TokenJoin.l0 k x0 x6 x9 x12 0)
def trufflelaw06_TokenJoin.l0 : Nat → ByteArray → List (S29) → List (S29) → List (S29) → Int → Option (Bool)
  | 0, _, _, _, _, _ => none
  | k + 1, x0, x6, x9, x12, x15 => if x15 < (x12.length : Int) then (if x15 < (x6.length : Int) then (if 0 ≤ x15 then (trufflelaw06_TokenJoin.j3 k x0 x6 x9 x12 x15 (!(((rd_T29 x12 x15).f0) == ((rd_T29 x6 x15).f0)) || (!((((rd_T29 x12 x15).f1).toList) == (((rd_T29 x6 x15).f1).toList)) || (!(((rd_T29 x12 x15).f2) == ((rd_T29 x6 x15).f2)) || (!(((rd_T29 x12 x15).f3) == ((rd_T29 x6 x15).f3))))))) else (none)) else (trufflelaw06_TokenJoin.j3 k x0 x6 x9 x12 x15 false)) else (some true)
def trufflelaw06_TokenJoin.j3 : Nat → ByteArray → List (S29) → List (S29) → List (S29) → Int → Bool → Option (Bool)
  | 0, _, _, _, _, _, _ => none
  | k + 1, x0, x6, x9, x12, x15, x99 => if x99 = true then (some false) else (if x15 ≥ (x6.length : Int) then (if 0 ≤ x15 then (if x15 < (x12.length : Int) then (if 0 ≤ (wrap64 (x15 - (x6.length : Int))) then (if (wrap64 (x15 - (x6.length : Int))) < (x9.length : Int) then (if ((rd_T29 x12 x15).f1).toList = ((rd_T29 x9 (wrap64 (x15 - (x6.length : Int)))).f1).toList then (if ((rd_T29 x12 x15).f0) = ((rd_T29 x9 (wrap64 (x15 - (x6.length : Int)))).f0) then (if ((rd_T29 x12 x15).f3) = (wrap64 ((wrap64 (((rd_T29 x9 (wrap64 (x15 - (x6.length : Int)))).f3) + (x0.size : Int))) + 1)) then (trufflelaw06_TokenJoin.l0 k x0 x6 x9 x12 (wrap64 (x15 + 1))) else (some false)) else (some false)) else (some false)) else (none)) else (none)) else (none)) else (none)) else (trufflelaw06_TokenJoin.l0 k x0 x6 x9 x12 (wrap64 (x15 + 1))))
end
def trufflelaw06_TokenJoin.f (k : Nat) (a0 : ByteArray) (a1 : ByteArray) : Option (Bool) := (trufflelaw06_awake.f).bind fun t272 => (if t272 = true then (if (a0.size : Int) > 500 then (trufflelaw06_TokenJoin.j0 k a0 a1 t272 true) else (trufflelaw06_TokenJoin.j0 k a0 a1 t272 (decide ((a1.size : Int) > 500)))) else (trufflelaw06_TokenJoin.j0 k a0 a1 t272 true))
theorem trufflelaw06_TokenJoin.mono_l : ∀ k, (∀ y0 y1 y2 y3, LeO (trufflelaw06_TokenJoin.j0 k y0 y1 y2 y3) (trufflelaw06_TokenJoin.j0 (k + 1) y0 y1 y2 y3)) ∧ (∀ y0 y1 y2 y3 y4, LeO (trufflelaw06_TokenJoin.j1 k y0 y1 y2 y3 y4) (trufflelaw06_TokenJoin.j1 (k + 1) y0 y1 y2 y3 y4)) ∧ (∀ y0 y1 y2 y3 y4, LeO (trufflelaw06_TokenJoin.l0 k y0 y1 y2 y3 y4) (trufflelaw06_TokenJoin.l0 (k + 1) y0 y1 y2 y3 y4)) ∧ (∀ y0 y1 y2 y3 y4 y5, LeO (trufflelaw06_TokenJoin.j3 k y0 y1 y2 y3 y4 y5) (trufflelaw06_TokenJoin.j3 (k + 1) y0 y1 y2 y3 y4 y5))
  | 0 => ⟨fun _ _ _ _ r h => by simp [trufflelaw06_TokenJoin.j0] at h, fun _ _ _ _ _ r h => by simp [trufflelaw06_TokenJoin.j1] at h, fun _ _ _ _ _ r h => by simp [trufflelaw06_TokenJoin.l0] at h, fun _ _ _ _ _ _ r h => by simp [trufflelaw06_TokenJoin.j3] at h⟩
  | k + 1 => by
    obtain ⟨ih0, ih1, ih2, ih3⟩ := trufflelaw06_TokenJoin.mono_l k
    refine ⟨?_, ?_, ?_, ?_⟩
    · intro y0 y1 y2 y3
      unfold trufflelaw06_TokenJoin.j0
      repeat' first
      | (with_reducible exact ih0 _ _ _ _)
      | (with_reducible exact ih1 _ _ _ _ _)
      | (with_reducible exact ih2 _ _ _ _ _)
      | (with_reducible exact ih3 _ _ _ _ _ _)
      | (with_reducible exact LeO.refl _)
      | (with_reducible exact LeO.none _)
      | (with_reducible refine LeO.ite ?_ ?_)
      | (with_reducible refine LeO.bind ?_ (fun _ => ?_))
      | exact ih0 _ _ _ _
      | exact ih1 _ _ _ _ _
      | exact ih2 _ _ _ _ _
      | exact ih3 _ _ _ _ _ _
      | exact LeO.none _
      | refine LeO.ite ?_ ?_
      | refine LeO.bind ?_ (fun _ => ?_)
    · intro y0 y1 y2 y3 y4
      unfold trufflelaw06_TokenJoin.j1
      repeat' first
      | (with_reducible exact ih0 _ _ _ _)
      | (with_reducible exact ih1 _ _ _ _ _)
      | (with_reducible exact ih2 _ _ _ _ _)
      | (with_reducible exact ih3 _ _ _ _ _ _)
      | (with_reducible exact LeO.refl _)
      | (with_reducible exact LeO.none _)
      | (with_reducible refine LeO.ite ?_ ?_)
      | (with_reducible refine LeO.bind ?_ (fun _ => ?_))
      | exact ih0 _ _ _ _
      | exact ih1 _ _ _ _ _
      | exact ih2 _ _ _ _ _
      | exact ih3 _ _ _ _ _ _
      | exact LeO.none _
      | refine LeO.ite ?_ ?_
      | refine LeO.bind ?_ (fun _ => ?_)
    · intro y0 y1 y2 y3 y4
      unfold trufflelaw06_TokenJoin.l0
      repeat' first
      | (with_reducible exact ih0 _ _ _ _)
      | (with_reducible exact ih1 _ _ _ _ _)
      | (with_reducible exact ih2 _ _ _ _ _)
      | (with_reducible exact ih3 _ _ _ _ _ _)
      | (with_reducible exact LeO.refl _)
      | (with_reducible exact LeO.none _)
      | (with_reducible refine LeO.ite ?_ ?_)
      | (with_reducible refine LeO.bind ?_ (fun _ => ?_))
      | exact ih0 _ _ _ _
      | exact ih1 _ _ _ _ _
      | exact ih2 _ _ _ _ _
      | exact ih3 _ _ _ _ _ _
      | exact LeO.none _
      | refine LeO.ite ?_ ?_
      | refine LeO.bind ?_ (fun _ => ?_)
    · intro y0 y1 y2 y3 y4 y5
      unfold trufflelaw06_TokenJoin.j3
      repeat' first
      | (with_reducible exact ih0 _ _ _ _)
      | (with_reducible exact ih1 _ _ _ _ _)
      | (with_reducible exact ih2 _ _ _ _ _)
      | (with_reducible exact ih3 _ _ _ _ _ _)
      | (with_reducible exact LeO.refl _)
      | (with_reducible exact LeO.none _)
      | (with_reducible refine LeO.ite ?_ ?_)
      | (with_reducible refine LeO.bind ?_ (fun _ => ?_))
      | exact ih0 _ _ _ _
      | exact ih1 _ _ _ _ _
      | exact ih2 _ _ _ _ _
      | exact ih3 _ _ _ _ _ _
      | exact LeO.none _
      | refine LeO.ite ?_ ?_
      | refine LeO.bind ?_ (fun _ => ?_)
theorem trufflelaw06_TokenJoin.mono : ∀ a0 a1 k, LeO (trufflelaw06_TokenJoin.f k a0 a1) (trufflelaw06_TokenJoin.f (k + 1) a0 a1) := by
  intro a0 a1 k
  obtain ⟨ih0, ih1, ih2, ih3⟩ := trufflelaw06_TokenJoin.mono_l k
  unfold trufflelaw06_TokenJoin.f
  repeat' first
      | (with_reducible exact ih0 _ _ _ _)
      | (with_reducible exact ih1 _ _ _ _ _)
      | (with_reducible exact ih2 _ _ _ _ _)
      | (with_reducible exact ih3 _ _ _ _ _ _)
      | (with_reducible exact LeO.refl _)
      | (with_reducible exact LeO.none _)
      | (with_reducible refine LeO.ite ?_ ?_)
      | (with_reducible refine LeO.bind ?_ (fun _ => ?_))
      | exact ih0 _ _ _ _
      | exact ih1 _ _ _ _ _
      | exact ih2 _ _ _ _ _
      | exact ih3 _ _ _ _ _ _
      | exact LeO.none _
      | refine LeO.ite ?_ ?_
      | refine LeO.bind ?_ (fun _ => ?_)
set_option maxHeartbeats 8000000 in
set_option maxRecDepth 100000 in
theorem trufflelaw06_TokenJoin.calls (k : Nat) (a0 : ByteArray) (a1 : ByteArray) (r : Bool) (w : World) (hG : GInv w) (h : trufflelaw06_TokenJoin.f k a0 a1 = some r) :
    Calls Tryd.prog 5 #[.string a0, .string a1] w fun e w' => e = .returned (.bool r) ∧ Below w.heap.size w w' := by
  have hu29 := Tryd.underlying29
  have HB := Aside0.mk (Below.refl w.heap.size w)
  have H : ((trufflelaw06_awake.f).bind fun t272 => (if t272 = true then (if (a0.size : Int) > 500 then (trufflelaw06_TokenJoin.j0 k a0 a1 t272 true) else (trufflelaw06_TokenJoin.j0 k a0 a1 t272 (decide ((a1.size : Int) > 500)))) else (trufflelaw06_TokenJoin.j0 k a0 a1 t272 true))) = some r := h
  clear h
  replace H := Option.bind_eq_some_iff.mp H
  obtain ⟨t272, A30, H⟩ := H
  replace H : (if t272 = true then (if (a0.size : Int) > 500 then (trufflelaw06_TokenJoin.j0 k a0 a1 t272 true) else (trufflelaw06_TokenJoin.j0 k a0 a1 t272 (decide ((a1.size : Int) > 500)))) else (trufflelaw06_TokenJoin.j0 k a0 a1 t272 true)) = some r := H
  have A3 := Aside0.mk A30
  clear A30
  have HC4 := Aside0.mk H
  clear H
  go_enter Tryd.func5, Tryd.ntmps5
  go_upto_region 2 with (first | (go_at_call 15; (with_reducible refine (trufflelaw06_awake.calls  t272 _ ?side1 A3.out).mono ?_); (case side1 => exact hG.below (by repeat (first | (with_reducible first | exact HB.out | apply below_alloc | apply pw_below_drewN | apply below_drew1) | exact HB.out))); rintro e w5 ⟨rfl, hb⟩; have n0_ := Aside0.mk (below_step (by repeat (first | (with_reducible first | exact HB.out | apply below_alloc | apply pw_below_drewN | apply below_drew1) | exact HB.out)) hb); clear HB; have HB := n0_; clear n0_; (try clear hb); (try clear hb2); (try clear hk); (try clear hi)))
  repeat (go_quiet (first | (go_at_call 15; (with_reducible refine (trufflelaw06_awake.calls  t272 _ ?side1 A3.out).mono ?_); (case side1 => exact hG.below (by repeat (first | (with_reducible first | exact HB.out | apply below_alloc | apply pw_below_drewN | apply below_drew1) | exact HB.out))); rintro e w5 ⟨rfl, hb⟩; have n0_ := Aside0.mk (below_step (by repeat (first | (with_reducible first | exact HB.out | apply below_alloc | apply pw_below_drewN | apply below_drew1) | exact HB.out)) hb); clear HB; have HB := n0_; clear n0_; (try clear hb); (try clear hb2); (try clear hk); (try clear hi))); go_upto_region 2 with (first | (go_at_call 15; (with_reducible refine (trufflelaw06_awake.calls  t272 _ ?side1 A3.out).mono ?_); (case side1 => exact hG.below (by repeat (first | (with_reducible first | exact HB.out | apply below_alloc | apply pw_below_drewN | apply below_drew1) | exact HB.out))); rintro e w5 ⟨rfl, hb⟩; have n0_ := Aside0.mk (below_step (by repeat (first | (with_reducible first | exact HB.out | apply below_alloc | apply pw_below_drewN | apply below_drew1) | exact HB.out)) hb); clear HB; have HB := n0_; clear n0_; (try clear hb); (try clear hb2); (try clear hk); (try clear hi))))
  (try simp only [Act.put, List.setIfInBounds_toArray, List.set_cons_zero, List.set_cons_succ])
  go_cut [28] (fun v28 wc => ∃ (kq : Nat) (x28_3 : Bool), v28 = .bool x28_3 ∧ Aside0 (trufflelaw06_TokenJoin.j0 kq a0 a1 t272 x28_3 = some r) ∧ Aside0 (kq ≤ k) ∧ Aside0 (Below w.heap.size w wc))
  case first =>
    have H := HC4.out
    clear HC4
    by_cases c6 : t272 = true
    · subst c6
      have H1 : (if (a0.size : Int) > 500 then (trufflelaw06_TokenJoin.j0 k a0 a1 true true) else (trufflelaw06_TokenJoin.j0 k a0 a1 true (decide ((a1.size : Int) > 500)))) = some r := by rw [if_pos rfl] at H; exact H
      clear H
      have H := H1
      clear H1
      by_cases c7 : (a0.size : Int) > 500
      · rw [if_pos c7] at H
        have c7b0 : decide (500 < (a0.size : Int)) = true := decide_eq_true c7
        have c7b1 : decide (500 < a0.size) = true := decide_eq_true (by omega)
        clear c7
        (first | rw [c7b0] | (simp only [i64_w, i32_w]; rw [c7b0]) | skip)
        have H' := Aside0.mk H
        clear H
        go_wp2
        repeat (go_quiet (fail); try go_wp2)
        go_meet
        case rel => exact ⟨_, (true), (by first | rfl | (simp; done) | (simp [*]; done)), H', ⟨by first | omega | exact Nat.le_refl _⟩, ⟨by repeat (first | (with_reducible first | exact HB.out | apply below_alloc | apply pw_below_drewN | apply below_drew1) | exact HB.out)⟩⟩
      · rw [if_neg c7] at H
        have c7b0 : decide (500 < (a0.size : Int)) = false := decide_eq_false c7
        have c7b1 : decide (500 < a0.size) = false := decide_eq_false (by omega)
        clear c7
        (first | rw [c7b0] | (simp only [i64_w, i32_w]; rw [c7b0]) | skip)
        have H' := Aside0.mk H
        clear H
        go_wp2
        repeat (go_quiet (fail); try go_wp2)
        go_meet
        case rel => exact ⟨_, (decide ((a1.size : Int) > 500)), (by first | rfl | (simp; done) | (simp [*]; done)), H', ⟨by first | omega | exact Nat.le_refl _⟩, ⟨by repeat (first | (with_reducible first | exact HB.out | apply below_alloc | apply pw_below_drewN | apply below_drew1) | exact HB.out)⟩⟩
    · replace c6 := Bool.eq_false_iff.mpr c6
      subst c6
      have H1 : (trufflelaw06_TokenJoin.j0 k a0 a1 false true) = some r := by rw [if_neg (show ¬ (false = true) by decide)] at H; exact H
      clear H
      have H := H1
      clear H1
      have H' := Aside0.mk H
      clear H
      go_wp2
      repeat (go_quiet (fail); try go_wp2)
      go_meet
      case rel => exact ⟨_, (true), (by first | rfl | (simp; done) | (simp [*]; done)), H', ⟨by first | omega | exact Nat.le_refl _⟩, ⟨by repeat (first | (with_reducible first | exact HB.out | apply below_alloc | apply pw_below_drewN | apply below_drew1) | exact HB.out)⟩⟩
  case rest =>
    clear HC4
    try clear p2
    try clear c5
    try clear c6
    try clear c7
    try clear c7b0
    try clear c7b1
    obtain ⟨kq, x28_3, rfl, HA, HJ3, HB⟩ := hcut
    cases kq with
    | zero => exact absurd HA.out (by simp [trufflelaw06_TokenJoin.j0])
    | succ kj3 =>
      have H := HA.out
      clear HA
      simp only [trufflelaw06_TokenJoin.j0] at H
      by_cases c8 : x28_3 = true
      · subst c8
        have H1 : (some t272) = some r := by rw [if_pos rfl] at H; exact H
        clear H
        have H := H1
        clear H1
        obtain rfl := Option.some.inj H
        go_wp2
        repeat (go_quiet (fail); try go_wp2)
        go_ret
        exact ⟨by first | rfl | (simp [errW_none, errW_some] <;> rfl) | (simp [*, errW_none, errW_some] <;> rfl), by repeat (first | (with_reducible first | exact HB.out | apply below_alloc | apply pw_below_drewN | apply below_drew1) | exact HB.out)⟩
      · replace c8 := Bool.eq_false_iff.mpr c8
        subst c8
        have H1 : ((token_All.f a0).bind fun bt273 => ((token_All.f a1).bind fun bt278 => (if a0.size + 1 ≤ 9223372036854775807 then (if (a0 ++ (⟨#[10]⟩ : ByteArray)).size + a1.size ≤ 9223372036854775807 then ((token_All.f ((a0 ++ (⟨#[10]⟩ : ByteArray)) ++ a1)).bind fun bt283 => (if bt273.2.2 = 0 then (if bt278.2.2 = bt283.2.2 then (if bt283.2.1 = (wrap64 ((wrap64 (bt278.2.1 + (a0.size : Int))) + 1)) then (if bt283.2.2 = 0 then (trufflelaw06_TokenJoin.j1 kj3 a0 bt273.1 bt278.1 bt283.1 ((bt283.1.length : Int) != (wrap64 ((bt273.1.length : Int) + (bt278.1.length : Int))))) else (trufflelaw06_TokenJoin.j1 kj3 a0 bt273.1 bt278.1 bt283.1 false)) else (trufflelaw06_TokenJoin.j1 kj3 a0 bt273.1 bt278.1 bt283.1 true)) else (trufflelaw06_TokenJoin.j1 kj3 a0 bt273.1 bt278.1 bt283.1 true)) else (some true))) else (none)) else (none)))) = some r := by rw [if_neg (show ¬ (false = true) by decide)] at H; exact H
        clear H
        have H := H1
        clear H1
        replace H := Option.bind_eq_some_iff.mp H
        obtain ⟨⟨t273, t274, t275⟩, A90, H⟩ := H
        replace H : ((token_All.f a1).bind fun bt278 => (if a0.size + 1 ≤ 9223372036854775807 then (if (a0 ++ (⟨#[10]⟩ : ByteArray)).size + a1.size ≤ 9223372036854775807 then ((token_All.f ((a0 ++ (⟨#[10]⟩ : ByteArray)) ++ a1)).bind fun bt283 => (if t275 = 0 then (if bt278.2.2 = bt283.2.2 then (if bt283.2.1 = (wrap64 ((wrap64 (bt278.2.1 + (a0.size : Int))) + 1)) then (if bt283.2.2 = 0 then (trufflelaw06_TokenJoin.j1 kj3 a0 t273 bt278.1 bt283.1 ((bt283.1.length : Int) != (wrap64 ((t273.length : Int) + (bt278.1.length : Int))))) else (trufflelaw06_TokenJoin.j1 kj3 a0 t273 bt278.1 bt283.1 false)) else (trufflelaw06_TokenJoin.j1 kj3 a0 t273 bt278.1 bt283.1 true)) else (trufflelaw06_TokenJoin.j1 kj3 a0 t273 bt278.1 bt283.1 true)) else (some true))) else (none)) else (none))) = some r := H
        have A9 := Aside0.mk A90
        clear A90
        replace H := Option.bind_eq_some_iff.mp H
        obtain ⟨⟨t278, t279, t280⟩, A100, H⟩ := H
        replace H : (if a0.size + 1 ≤ 9223372036854775807 then (if (a0 ++ (⟨#[10]⟩ : ByteArray)).size + a1.size ≤ 9223372036854775807 then ((token_All.f ((a0 ++ (⟨#[10]⟩ : ByteArray)) ++ a1)).bind fun bt283 => (if t275 = 0 then (if t280 = bt283.2.2 then (if bt283.2.1 = (wrap64 ((wrap64 (t279 + (a0.size : Int))) + 1)) then (if bt283.2.2 = 0 then (trufflelaw06_TokenJoin.j1 kj3 a0 t273 t278 bt283.1 ((bt283.1.length : Int) != (wrap64 ((t273.length : Int) + (t278.length : Int))))) else (trufflelaw06_TokenJoin.j1 kj3 a0 t273 t278 bt283.1 false)) else (trufflelaw06_TokenJoin.j1 kj3 a0 t273 t278 bt283.1 true)) else (trufflelaw06_TokenJoin.j1 kj3 a0 t273 t278 bt283.1 true)) else (some true))) else (none)) else (none)) = some r := H
        have A10 := Aside0.mk A100
        clear A100
        by_cases c11 : a0.size + 1 ≤ 9223372036854775807
        · rw [if_pos c11] at H
          have c11b0 := eq_true c11
          have c11b1 : decide (a0.size + 1 ≤ 9223372036854775807) = true := decide_eq_true c11
          try have c11b2 : (9223372036854775807 < a0.size + 1) = False := eq_false (Nat.not_lt.2 c11)
          by_cases c12 : (a0 ++ (⟨#[10]⟩ : ByteArray)).size + a1.size ≤ 9223372036854775807
          · rw [if_pos c12] at H
            have c12b0 := eq_true c12
            have c12b1 : decide ((a0 ++ (⟨#[10]⟩ : ByteArray)).size + a1.size ≤ 9223372036854775807) = true := decide_eq_true c12
            try have c12b2 : (9223372036854775807 < (a0 ++ (⟨#[10]⟩ : ByteArray)).size + a1.size) = False := eq_false (Nat.not_lt.2 c12)
            replace H := Option.bind_eq_some_iff.mp H
            obtain ⟨⟨t283, t284, t285⟩, A130, H⟩ := H
            replace H : (if t275 = 0 then (if t280 = t285 then (if t284 = (wrap64 ((wrap64 (t279 + (a0.size : Int))) + 1)) then (if t285 = 0 then (trufflelaw06_TokenJoin.j1 kj3 a0 t273 t278 t283 ((t283.length : Int) != (wrap64 ((t273.length : Int) + (t278.length : Int))))) else (trufflelaw06_TokenJoin.j1 kj3 a0 t273 t278 t283 false)) else (trufflelaw06_TokenJoin.j1 kj3 a0 t273 t278 t283 true)) else (trufflelaw06_TokenJoin.j1 kj3 a0 t273 t278 t283 true)) else (some true)) = some r := H
            have A13 := Aside0.mk A130
            clear A130
            by_cases c14 : t275 = 0
            · rw [if_pos c14] at H
              have c14b0 : (t275 == 0) = true := beq_iff_eq.mpr c14
              have c14b1 : (t275 != 0) = false := bne_eq_false_iff_eq.mpr c14
              clear c14
              have HC15 := Aside0.mk H
              clear H
              go_upto_region 9 with (first | (go_at_call 16; (with_reducible refine (token_All.calls a0 t273 t274 t275 _ ?side1 A9.out).mono ?_); (case side1 => exact hG.below (by repeat (first | (with_reducible first | exact HB.out | apply below_alloc | apply pw_below_drewN | apply below_drew1) | exact HB.out))); rintro e w16 ⟨v276, rfl, ho0, hb⟩; have n0_ := Aside0.mk (Kd.R_lower ho0 (below_size (by repeat (first | (with_reducible first | exact HB.out | apply below_alloc | apply pw_below_drewN | apply below_drew1) | exact HB.out)))); have n1_ := Aside0.mk (below_step (by repeat (first | (with_reducible first | exact HB.out | apply below_alloc | apply pw_below_drewN | apply below_drew1) | exact HB.out)) hb); clear HB; have HO277 := n0_; have HB := n1_; clear n0_ n1_; (try clear hb); (try clear hb2); (try clear hk); (try clear hi); (try clear ho0)) | (go_at_call 16; (with_reducible refine (token_All.calls a1 t278 t279 t280 _ ?side1 A10.out).mono ?_); (case side1 => exact hG.below (by repeat (first | (with_reducible first | exact HB.out | apply below_alloc | apply pw_below_drewN | apply below_drew1) | exact HB.out))); rintro e w17 ⟨v281, rfl, ho0, hb⟩; have n0_ := Aside0.mk (Kd.R_elder' (by (with_reducible repeat (first | apply Kd.R_alloc | apply Kd.R_drewN | apply Kd.R_drew)); exact HO277.out) (Kd.R_base ho0) hb); have n1_ := Aside0.mk (Kd.R_lower (Kd.R_new' ho0 (Kd.R_lt (by (with_reducible repeat (first | apply Kd.R_alloc | apply Kd.R_drewN | apply Kd.R_drew)); exact HO277.out))) (below_size (by repeat (first | (with_reducible first | exact HB.out | apply below_alloc | apply pw_below_drewN | apply below_drew1) | exact HB.out)))); have n2_ := Aside0.mk (below_step (by repeat (first | (with_reducible first | exact HB.out | apply below_alloc | apply pw_below_drewN | apply below_drew1) | exact HB.out)) hb); clear HO277; clear HB; have HO277 := n0_; have HO282 := n1_; have HB := n2_; clear n0_ n1_ n2_; (try clear hb); (try clear hb2); (try clear hk); (try clear hi); (try clear ho0)) | (go_at_call 16; (with_reducible refine (token_All.calls ((a0 ++ (⟨#[10]⟩ : ByteArray)) ++ a1) t283 t284 t285 _ ?side1 A13.out).mono ?_); (case side1 => exact hG.below (by repeat (first | (with_reducible first | exact HB.out | apply below_alloc | apply pw_below_drewN | apply below_drew1) | exact HB.out))); rintro e w18 ⟨v286, rfl, ho0, hb⟩; have n0_ := Aside0.mk (Kd.R_elder' (by (with_reducible repeat (first | apply Kd.R_alloc | apply Kd.R_drewN | apply Kd.R_drew)); exact HO277.out) (Kd.R_base ho0) hb); have n1_ := Aside0.mk (Kd.R_elder' (by (with_reducible repeat (first | apply Kd.R_alloc | apply Kd.R_drewN | apply Kd.R_drew)); exact HO282.out) (Kd.R_base ho0) hb); have n2_ := Aside0.mk (Kd.R_lower (Kd.R_new' (Kd.R_new' ho0 (Kd.R_lt (by (with_reducible repeat (first | apply Kd.R_alloc | apply Kd.R_drewN | apply Kd.R_drew)); exact HO277.out))) (Kd.R_lt (by (with_reducible repeat (first | apply Kd.R_alloc | apply Kd.R_drewN | apply Kd.R_drew)); exact HO282.out))) (below_size (by repeat (first | (with_reducible first | exact HB.out | apply below_alloc | apply pw_below_drewN | apply below_drew1) | exact HB.out)))); have n3_ := Aside0.mk (below_step (by repeat (first | (with_reducible first | exact HB.out | apply below_alloc | apply pw_below_drewN | apply below_drew1) | exact HB.out)) hb); clear HO277; clear HO282; clear HB; have HO277 := n0_; have HO282 := n1_; have HO287 := n2_; have HB := n3_; clear n0_ n1_ n2_ n3_; (try clear hb); (try clear hb2); (try clear hk); (try clear hi); (try clear ho0)))
              repeat (go_quiet (first | (go_at_call 16; (with_reducible refine (token_All.calls a0 t273 t274 t275 _ ?side1 A9.out).mono ?_); (case side1 => exact hG.below (by repeat (first | (with_reducible first | exact HB.out | apply below_alloc | apply pw_below_drewN | apply below_drew1) | exact HB.out))); rintro e w16 ⟨v276, rfl, ho0, hb⟩; have n0_ := Aside0.mk (Kd.R_lower ho0 (below_size (by repeat (first | (with_reducible first | exact HB.out | apply below_alloc | apply pw_below_drewN | apply below_drew1) | exact HB.out)))); have n1_ := Aside0.mk (below_step (by repeat (first | (with_reducible first | exact HB.out | apply below_alloc | apply pw_below_drewN | apply below_drew1) | exact HB.out)) hb); clear HB; have HO277 := n0_; have HB := n1_; clear n0_ n1_; (try clear hb); (try clear hb2); (try clear hk); (try clear hi); (try clear ho0)) | (go_at_call 16; (with_reducible refine (token_All.calls a1 t278 t279 t280 _ ?side1 A10.out).mono ?_); (case side1 => exact hG.below (by repeat (first | (with_reducible first | exact HB.out | apply below_alloc | apply pw_below_drewN | apply below_drew1) | exact HB.out))); rintro e w17 ⟨v281, rfl, ho0, hb⟩; have n0_ := Aside0.mk (Kd.R_elder' (by (with_reducible repeat (first | apply Kd.R_alloc | apply Kd.R_drewN | apply Kd.R_drew)); exact HO277.out) (Kd.R_base ho0) hb); have n1_ := Aside0.mk (Kd.R_lower (Kd.R_new' ho0 (Kd.R_lt (by (with_reducible repeat (first | apply Kd.R_alloc | apply Kd.R_drewN | apply Kd.R_drew)); exact HO277.out))) (below_size (by repeat (first | (with_reducible first | exact HB.out | apply below_alloc | apply pw_below_drewN | apply below_drew1) | exact HB.out)))); have n2_ := Aside0.mk (below_step (by repeat (first | (with_reducible first | exact HB.out | apply below_alloc | apply pw_below_drewN | apply below_drew1) | exact HB.out)) hb); clear HO277; clear HB; have HO277 := n0_; have HO282 := n1_; have HB := n2_; clear n0_ n1_ n2_; (try clear hb); (try clear hb2); (try clear hk); (try clear hi); (try clear ho0)) | (go_at_call 16; (with_reducible refine (token_All.calls ((a0 ++ (⟨#[10]⟩ : ByteArray)) ++ a1) t283 t284 t285 _ ?side1 A13.out).mono ?_); (case side1 => exact hG.below (by repeat (first | (with_reducible first | exact HB.out | apply below_alloc | apply pw_below_drewN | apply below_drew1) | exact HB.out))); rintro e w18 ⟨v286, rfl, ho0, hb⟩; have n0_ := Aside0.mk (Kd.R_elder' (by (with_reducible repeat (first | apply Kd.R_alloc | apply Kd.R_drewN | apply Kd.R_drew)); exact HO277.out) (Kd.R_base ho0) hb); have n1_ := Aside0.mk (Kd.R_elder' (by (with_reducible repeat (first | apply Kd.R_alloc | apply Kd.R_drewN | apply Kd.R_drew)); exact HO282.out) (Kd.R_base ho0) hb); have n2_ := Aside0.mk (Kd.R_lower (Kd.R_new' (Kd.R_new' ho0 (Kd.R_lt (by (with_reducible repeat (first | apply Kd.R_alloc | apply Kd.R_drewN | apply Kd.R_drew)); exact HO277.out))) (Kd.R_lt (by (with_reducible repeat (first | apply Kd.R_alloc | apply Kd.R_drewN | apply Kd.R_drew)); exact HO282.out))) (below_size (by repeat (first | (with_reducible first | exact HB.out | apply below_alloc | apply pw_below_drewN | apply below_drew1) | exact HB.out)))); have n3_ := Aside0.mk (below_step (by repeat (first | (with_reducible first | exact HB.out | apply below_alloc | apply pw_below_drewN | apply below_drew1) | exact HB.out)) hb); clear HO277; clear HO282; clear HB; have HO277 := n0_; have HO282 := n1_; have HO287 := n2_; have HB := n3_; clear n0_ n1_ n2_ n3_; (try clear hb); (try clear hb2); (try clear hk); (try clear hi); (try clear ho0))); go_upto_region 9 with (first | (go_at_call 16; (with_reducible refine (token_All.calls a0 t273 t274 t275 _ ?side1 A9.out).mono ?_); (case side1 => exact hG.below (by repeat (first | (with_reducible first | exact HB.out | apply below_alloc | apply pw_below_drewN | apply below_drew1) | exact HB.out))); rintro e w16 ⟨v276, rfl, ho0, hb⟩; have n0_ := Aside0.mk (Kd.R_lower ho0 (below_size (by repeat (first | (with_reducible first | exact HB.out | apply below_alloc | apply pw_below_drewN | apply below_drew1) | exact HB.out)))); have n1_ := Aside0.mk (below_step (by repeat (first | (with_reducible first | exact HB.out | apply below_alloc | apply pw_below_drewN | apply below_drew1) | exact HB.out)) hb); clear HB; have HO277 := n0_; have HB := n1_; clear n0_ n1_; (try clear hb); (try clear hb2); (try clear hk); (try clear hi); (try clear ho0)) | (go_at_call 16; (with_reducible refine (token_All.calls a1 t278 t279 t280 _ ?side1 A10.out).mono ?_); (case side1 => exact hG.below (by repeat (first | (with_reducible first | exact HB.out | apply below_alloc | apply pw_below_drewN | apply below_drew1) | exact HB.out))); rintro e w17 ⟨v281, rfl, ho0, hb⟩; have n0_ := Aside0.mk (Kd.R_elder' (by (with_reducible repeat (first | apply Kd.R_alloc | apply Kd.R_drewN | apply Kd.R_drew)); exact HO277.out) (Kd.R_base ho0) hb); have n1_ := Aside0.mk (Kd.R_lower (Kd.R_new' ho0 (Kd.R_lt (by (with_reducible repeat (first | apply Kd.R_alloc | apply Kd.R_drewN | apply Kd.R_drew)); exact HO277.out))) (below_size (by repeat (first | (with_reducible first | exact HB.out | apply below_alloc | apply pw_below_drewN | apply below_drew1) | exact HB.out)))); have n2_ := Aside0.mk (below_step (by repeat (first | (with_reducible first | exact HB.out | apply below_alloc | apply pw_below_drewN | apply below_drew1) | exact HB.out)) hb); clear HO277; clear HB; have HO277 := n0_; have HO282 := n1_; have HB := n2_; clear n0_ n1_ n2_; (try clear hb); (try clear hb2); (try clear hk); (try clear hi); (try clear ho0)) | (go_at_call 16; (with_reducible refine (token_All.calls ((a0 ++ (⟨#[10]⟩ : ByteArray)) ++ a1) t283 t284 t285 _ ?side1 A13.out).mono ?_); (case side1 => exact hG.below (by repeat (first | (with_reducible first | exact HB.out | apply below_alloc | apply pw_below_drewN | apply below_drew1) | exact HB.out))); rintro e w18 ⟨v286, rfl, ho0, hb⟩; have n0_ := Aside0.mk (Kd.R_elder' (by (with_reducible repeat (first | apply Kd.R_alloc | apply Kd.R_drewN | apply Kd.R_drew)); exact HO277.out) (Kd.R_base ho0) hb); have n1_ := Aside0.mk (Kd.R_elder' (by (with_reducible repeat (first | apply Kd.R_alloc | apply Kd.R_drewN | apply Kd.R_drew)); exact HO282.out) (Kd.R_base ho0) hb); have n2_ := Aside0.mk (Kd.R_lower (Kd.R_new' (Kd.R_new' ho0 (Kd.R_lt (by (with_reducible repeat (first | apply Kd.R_alloc | apply Kd.R_drewN | apply Kd.R_drew)); exact HO277.out))) (Kd.R_lt (by (with_reducible repeat (first | apply Kd.R_alloc | apply Kd.R_drewN | apply Kd.R_drew)); exact HO282.out))) (below_size (by repeat (first | (with_reducible first | exact HB.out | apply below_alloc | apply pw_below_drewN | apply below_drew1) | exact HB.out)))); have n3_ := Aside0.mk (below_step (by repeat (first | (with_reducible first | exact HB.out | apply below_alloc | apply pw_below_drewN | apply below_drew1) | exact HB.out)) hb); clear HO277; clear HO282; clear HB; have HO277 := n0_; have HO282 := n1_; have HO287 := n2_; have HB := n3_; clear n0_ n1_ n2_ n3_; (try clear hb); (try clear hb2); (try clear hk); (try clear hi); (try clear ho0))))
              (try simp only [Act.put, List.setIfInBounds_toArray, List.set_cons_zero, List.set_cons_succ])
              go_cut [78] (fun v78 wc => ∃ (kq : Nat) (x78_14 : Bool), v78 = .bool x78_14 ∧ Aside0 (trufflelaw06_TokenJoin.j1 kq a0 t273 t278 t283 x78_14 = some r) ∧ Aside0 (kq ≤ kj3) ∧ Aside0 (Kd.R k29 29 wc w.heap.size (fun k_ => some k_ ≠ (v281 : Value).ownBlock ∧ some k_ ≠ (v286 : Value).ownBlock) v276 t273) ∧ Aside0 (Kd.R k29 29 wc w.heap.size (fun k_ => some k_ ≠ (v276 : Value).ownBlock ∧ some k_ ≠ (v286 : Value).ownBlock) v281 t278) ∧ Aside0 (Kd.R k29 29 wc w.heap.size (fun k_ => some k_ ≠ (v276 : Value).ownBlock ∧ some k_ ≠ (v281 : Value).ownBlock) v286 t283) ∧ Aside0 (Below w.heap.size w wc))
              case first =>
                have H := HC15.out
                clear HC15
                by_cases c19 : t280 = t285
                · rw [if_pos c19] at H
                  have c19b0 : (t280 == t285) = true := beq_iff_eq.mpr c19
                  have c19b1 : (t280 != t285) = false := bne_eq_false_iff_eq.mpr c19
                  clear c19
                  (first | rw [c19b0] | (simp only [i64_w, i32_w]; rw [c19b0]) | skip)
                  by_cases c20 : t284 = (wrap64 ((wrap64 (t279 + (a0.size : Int))) + 1))
                  · rw [if_pos c20] at H
                    have c20b0 : (t284 == (wrap64 ((wrap64 (t279 + (a0.size : Int))) + 1))) = true := beq_iff_eq.mpr c20
                    have c20b1 : (t284 != (wrap64 ((wrap64 (t279 + (a0.size : Int))) + 1))) = false := bne_eq_false_iff_eq.mpr c20
                    clear c20
                    by_cases c21 : t285 = 0
                    · rw [if_pos c21] at H
                      have c21b0 : (t285 == 0) = true := beq_iff_eq.mpr c21
                      have c21b1 : (t285 != 0) = false := bne_eq_false_iff_eq.mpr c21
                      clear c21
                      have H' := Aside0.mk H
                      clear H
                      obtain ⟨Ao22, co22, eo22⟩ := Kd.R_slice HO287.out
                      subst eo22
                      obtain ⟨Ao23, co23, eo23⟩ := Kd.R_slice HO277.out
                      subst eo23
                      obtain ⟨Ao24, co24, eo24⟩ := Kd.R_slice HO282.out
                      subst eo24
                      go_wp2
                      repeat (go_quiet (fail); try go_wp2)
                      go_meet
                      case rel => exact ⟨_, (((t283.length : Int) != (wrap64 ((t273.length : Int) + (t278.length : Int))))), (by first | rfl | (simp; done) | (simp [*]; done)), H', ⟨by have := HJ3.out; first | omega | exact Nat.le_refl _⟩, ⟨by (with_reducible repeat (first | apply Kd.R_alloc | apply Kd.R_drewN | apply Kd.R_drew)); exact Kd.R_mono HO277.out (fun _ hk => ⟨hk.1.2, hk.2⟩)⟩, ⟨by (with_reducible repeat (first | apply Kd.R_alloc | apply Kd.R_drewN | apply Kd.R_drew)); exact Kd.R_mono HO282.out (fun _ hk => ⟨hk.1.2, hk.2⟩)⟩, ⟨by (with_reducible repeat (first | apply Kd.R_alloc | apply Kd.R_drewN | apply Kd.R_drew)); exact Kd.R_mono HO287.out (fun _ hk => ⟨hk.1.2, hk.2⟩)⟩, ⟨by repeat (first | (with_reducible first | exact HB.out | apply below_alloc | apply pw_below_drewN | apply below_drew1) | exact HB.out)⟩⟩
                    · rw [if_neg c21] at H
                      have c21b0 : (t285 == 0) = false := beq_eq_false_iff_ne.mpr c21
                      have c21b1 : (t285 != 0) = true := bne_iff_ne.mpr c21
                      have H' := Aside0.mk H
                      clear H
                      go_wp2
                      repeat (go_quiet (fail); try go_wp2)
                      go_meet
                      case rel => exact ⟨_, (false), (by first | rfl | (simp; done) | (simp [*]; done)), H', ⟨by have := HJ3.out; first | omega | exact Nat.le_refl _⟩, ⟨by (with_reducible repeat (first | apply Kd.R_alloc | apply Kd.R_drewN | apply Kd.R_drew)); exact Kd.R_mono HO277.out (fun _ hk => ⟨hk.1.2, hk.2⟩)⟩, ⟨by (with_reducible repeat (first | apply Kd.R_alloc | apply Kd.R_drewN | apply Kd.R_drew)); exact Kd.R_mono HO282.out (fun _ hk => ⟨hk.1.2, hk.2⟩)⟩, ⟨by (with_reducible repeat (first | apply Kd.R_alloc | apply Kd.R_drewN | apply Kd.R_drew)); exact Kd.R_mono HO287.out (fun _ hk => ⟨hk.1.2, hk.2⟩)⟩, ⟨by repeat (first | (with_reducible first | exact HB.out | apply below_alloc | apply pw_below_drewN | apply below_drew1) | exact HB.out)⟩⟩
                  · rw [if_neg c20] at H
                    have c20b0 : (t284 == (wrap64 ((wrap64 (t279 + (a0.size : Int))) + 1))) = false := beq_eq_false_iff_ne.mpr c20
                    have c20b1 : (t284 != (wrap64 ((wrap64 (t279 + (a0.size : Int))) + 1))) = true := bne_iff_ne.mpr c20
                    have H' := Aside0.mk H
                    clear H
                    go_wp2
                    repeat (go_quiet (fail); try go_wp2)
                    go_meet
                    case rel => exact ⟨_, (true), (by first | rfl | (simp; done) | (simp [*]; done)), H', ⟨by have := HJ3.out; first | omega | exact Nat.le_refl _⟩, ⟨by (with_reducible repeat (first | apply Kd.R_alloc | apply Kd.R_drewN | apply Kd.R_drew)); exact Kd.R_mono HO277.out (fun _ hk => ⟨hk.1.2, hk.2⟩)⟩, ⟨by (with_reducible repeat (first | apply Kd.R_alloc | apply Kd.R_drewN | apply Kd.R_drew)); exact Kd.R_mono HO282.out (fun _ hk => ⟨hk.1.2, hk.2⟩)⟩, ⟨by (with_reducible repeat (first | apply Kd.R_alloc | apply Kd.R_drewN | apply Kd.R_drew)); exact Kd.R_mono HO287.out (fun _ hk => ⟨hk.1.2, hk.2⟩)⟩, ⟨by repeat (first | (with_reducible first | exact HB.out | apply below_alloc | apply pw_below_drewN | apply below_drew1) | exact HB.out)⟩⟩
                · rw [if_neg c19] at H
                  have c19b0 : (t280 == t285) = false := beq_eq_false_iff_ne.mpr c19
                  have c19b1 : (t280 != t285) = true := bne_iff_ne.mpr c19
                  (first | rw [c19b0] | (simp only [i64_w, i32_w]; rw [c19b0]) | skip)
                  have H' := Aside0.mk H
                  clear H
                  go_wp2
                  repeat (go_quiet (fail); try go_wp2)
                  go_meet
                  case rel => exact ⟨_, (true), (by first | rfl | (simp; done) | (simp [*]; done)), H', ⟨by have := HJ3.out; first | omega | exact Nat.le_refl _⟩, ⟨by (with_reducible repeat (first | apply Kd.R_alloc | apply Kd.R_drewN | apply Kd.R_drew)); exact Kd.R_mono HO277.out (fun _ hk => ⟨hk.1.2, hk.2⟩)⟩, ⟨by (with_reducible repeat (first | apply Kd.R_alloc | apply Kd.R_drewN | apply Kd.R_drew)); exact Kd.R_mono HO282.out (fun _ hk => ⟨hk.1.2, hk.2⟩)⟩, ⟨by (with_reducible repeat (first | apply Kd.R_alloc | apply Kd.R_drewN | apply Kd.R_drew)); exact Kd.R_mono HO287.out (fun _ hk => ⟨hk.1.2, hk.2⟩)⟩, ⟨by repeat (first | (with_reducible first | exact HB.out | apply below_alloc | apply pw_below_drewN | apply below_drew1) | exact HB.out)⟩⟩
              case rest =>
                clear HC15
                try clear c1
                try clear c2
                try clear p2
                try clear c5
                try clear c6
                try clear p6
                try clear c7
                try clear c7b0
                try clear c7b1
                try clear c8
                try clear c11
                try clear c11b0
                try clear c11b1
                try clear c11b2
                try clear c12
                try clear c12b0
                try clear c12b1
                try clear c12b2
                try clear c14
                try clear c14b0
                try clear c14b1
                try clear c19
                try clear c19b0
                try clear c19b1
                try clear c20
                try clear c20b0
                try clear c20b1
                try clear c21
                try clear c21b0
                try clear c21b1
                try clear p2
                obtain ⟨kq, x78_14, rfl, HA, HJ14, HO_6, HO_9, HO_12, HB⟩ := hcut
                cases kq with
                | zero => exact absurd HA.out (by simp [trufflelaw06_TokenJoin.j1])
                | succ kj14 =>
                  have H := HA.out
                  clear HA
                  simp only [trufflelaw06_TokenJoin.j1] at H
                  by_cases c25 : x78_14 = true
                  · subst c25
                    have H1 : (some false) = some r := by rw [if_pos rfl] at H; exact H
                    clear H
                    have H := H1
                    clear H1
                    obtain rfl := Option.some.inj H
                    go_wp2
                    repeat (go_quiet (fail); try go_wp2)
                    go_ret
                    exact ⟨by first | rfl | (simp [errW_none, errW_some] <;> rfl) | (simp [*, errW_none, errW_some] <;> rfl), by repeat (first | (with_reducible first | exact HB.out | apply below_alloc | apply pw_below_drewN | apply below_drew1) | exact HB.out)⟩
                  · replace c25 := Bool.eq_false_iff.mpr c25
                    subst c25
                    have H1 : (trufflelaw06_TokenJoin.l0 kj14 a0 t273 t278 t283 0) = some r := by rw [if_neg (show ¬ (false = true) by decide)] at H; exact H
                    clear H
                    have H := H1
                    clear H1
                    have H' := Aside0.mk H
                    clear H
                    go_wp2
                    repeat (go_quiet (fail); try go_wp2)
                    go_loopg [15] kj14 (fun kq v15 w' => ∃ (x15_3 : Int), v15 = .int .i64 x15_3 ∧ Aside0 (trufflelaw06_TokenJoin.l0 kq a0 t273 t278 t283 x15_3 = some r) ∧ Aside0 (kq ≤ kj14) ∧ Aside0 (Kd.R k29 29 w' w.heap.size (fun k_ => some k_ ≠ (v281 : Value).ownBlock ∧ some k_ ≠ (v286 : Value).ownBlock) v276 t273) ∧ Aside0 (Kd.R k29 29 w' w.heap.size (fun k_ => some k_ ≠ (v276 : Value).ownBlock ∧ some k_ ≠ (v286 : Value).ownBlock) v281 t278) ∧ Aside0 (Kd.R k29 29 w' w.heap.size (fun k_ => some k_ ≠ (v276 : Value).ownBlock ∧ some k_ ≠ (v281 : Value).ownBlock) v286 t283) ∧ Aside0 (Below w.heap.size w w'))
                    case atStart => exact ⟨(0), (by first | rfl | (simp; done) | (simp [*]; done)), H', ⟨Nat.le_refl _⟩, ⟨by (with_reducible repeat (first | apply Kd.R_alloc | apply Kd.R_drewN | apply Kd.R_drew)); exact HO_6.out⟩, ⟨by (with_reducible repeat (first | apply Kd.R_alloc | apply Kd.R_drewN | apply Kd.R_drew)); exact HO_9.out⟩, ⟨by (with_reducible repeat (first | apply Kd.R_alloc | apply Kd.R_drewN | apply Kd.R_drew)); exact HO_12.out⟩, ⟨by repeat (first | (with_reducible first | exact HB.out | apply below_alloc | apply pw_below_drewN | apply below_drew1) | exact HB.out)⟩⟩
                    case round =>
                      clear H'
                      try clear c1
                      try clear c2
                      try clear p2
                      try clear c5
                      try clear c6
                      try clear p6
                      try clear c7
                      try clear c7b0
                      try clear c7b1
                      try clear c8
                      try clear c11
                      try clear c11b0
                      try clear c11b1
                      try clear c11b2
                      try clear c12
                      try clear c12b0
                      try clear c12b1
                      try clear c12b2
                      try clear c14
                      try clear c14b0
                      try clear c14b1
                      try clear c19
                      try clear c19b0
                      try clear c19b1
                      try clear c20
                      try clear c20b0
                      try clear c20b1
                      try clear c21
                      try clear c21b0
                      try clear c21b1
                      try clear c25
                      try clear p2
                      try clear p6
                      obtain ⟨x15_3, rfl, HA, HK3, HO_6, HO_9, HO_12, HB⟩ := hrel
                      cases gk with
                      | zero => exact absurd HA.out (by simp [trufflelaw06_TokenJoin.l0])
                      | succ k3 =>
                        have H := HA.out
                        clear HA
                        simp only [trufflelaw06_TokenJoin.l0] at H
                        by_cases c26 : x15_3 < (t283.length : Int)
                        · rw [if_pos c26] at H
                          have c26b0 : decide (x15_3 < (t283.length : Int)) = true := decide_eq_true c26
                          clear c26
                          have HC27 := Aside0.mk H
                          clear H
                          obtain ⟨Ao28, co28, eo28⟩ := Kd.R_slice HO_12.out
                          subst eo28
                          go_upto_region 14 with (fail)
                          repeat (go_quiet (fail); go_upto_region 14 with (fail))
                          go_cut [99] (fun v99 wc => ∃ (kq : Nat) (x99_26 : Bool), v99 = .bool x99_26 ∧ Aside0 (trufflelaw06_TokenJoin.j3 kq a0 t273 t278 t283 x15_3 x99_26 = some r) ∧ Aside0 (kq ≤ k3) ∧ Aside0 (Kd.R k29 29 wc w.heap.size (fun k_ => some k_ ≠ (v281 : Value).ownBlock ∧ some k_ ≠ ((.slice Ao28 t283.length co28) : Value).ownBlock) v276 t273) ∧ Aside0 (Kd.R k29 29 wc w.heap.size (fun k_ => some k_ ≠ (v276 : Value).ownBlock ∧ some k_ ≠ ((.slice Ao28 t283.length co28) : Value).ownBlock) v281 t278) ∧ Aside0 (Kd.R k29 29 wc w.heap.size (fun k_ => some k_ ≠ (v276 : Value).ownBlock ∧ some k_ ≠ (v281 : Value).ownBlock) (.slice Ao28 t283.length co28) t283) ∧ Aside0 (Below w.heap.size w wc))
                          case first =>
                            have H := HC27.out
                            clear HC27
                            by_cases c29 : x15_3 < (t273.length : Int)
                            · rw [if_pos c29] at H
                              have c29b0 : decide (x15_3 < (t273.length : Int)) = true := decide_eq_true c29
                              clear c29
                              (first | rw [c29b0] | (simp only [i64_w, i32_w]; rw [c29b0]) | skip)
                              by_cases c30 : 0 ≤ x15_3
                              · rw [if_pos c30] at H
                                have c30b0 : decide (0 ≤ x15_3) = true := decide_eq_true c30
                                clear c30
                                have H' := Aside0.mk H
                                clear H
                                obtain ⟨Ao31, co31, eo31⟩ := Kd.R_slice HO_6.out
                                subst eo31
                                have p288 : 0 ≤ (x15_3 : Int) := of_decide_eq_true (by first | (with_reducible assumption) | assumption)
                                have q288 : x15_3 < (t283.length : Int) := of_decide_eq_true (by first | (with_reducible assumption) | assumption)
                                obtain ⟨ad288, e288, hx288_0, hx288_1, hx288_2, hx288_3⟩ := at_T29 (Kd.R_reads' HO_12.out).2.2 x15_3 p288 q288
                                cases e288
                                replace p288 := eq_true p288
                                replace q288 := eq_true q288
                                have p289 : 0 ≤ (x15_3 : Int) := of_decide_eq_true (by first | (with_reducible assumption) | assumption)
                                have q289 : x15_3 < (t273.length : Int) := of_decide_eq_true (by first | (with_reducible assumption) | assumption)
                                obtain ⟨ad289, e289, hx289_0, hx289_1, hx289_2, hx289_3⟩ := at_T29 (Kd.R_reads' HO_6.out).2.2 x15_3 p289 q289
                                cases e289
                                replace p289 := eq_true p289
                                replace q289 := eq_true q289
                                go_wp2
                                repeat (go_quiet (fail); try go_wp2)
                                go_meet
                                case rel => exact ⟨_, ((!(((rd_T29 t283 x15_3).f0) == ((rd_T29 t273 x15_3).f0)) || (!((((rd_T29 t283 x15_3).f1).toList) == (((rd_T29 t273 x15_3).f1).toList)) || (!(((rd_T29 t283 x15_3).f2) == ((rd_T29 t273 x15_3).f2)) || (!(((rd_T29 t283 x15_3).f3) == ((rd_T29 t273 x15_3).f3))))))), (by first | rfl | (simp; done) | (simp [*]; done)), H', ⟨by have := HJ3.out; have := HJ14.out; have := HK3.out; first | omega | exact Nat.le_refl _⟩, ⟨by (with_reducible repeat (first | apply Kd.R_alloc | apply Kd.R_drewN | apply Kd.R_drew)); exact HO_6.out⟩, ⟨by (with_reducible repeat (first | apply Kd.R_alloc | apply Kd.R_drewN | apply Kd.R_drew)); exact HO_9.out⟩, ⟨by (with_reducible repeat (first | apply Kd.R_alloc | apply Kd.R_drewN | apply Kd.R_drew)); exact HO_12.out⟩, ⟨by repeat (first | (with_reducible first | exact HB.out | apply below_alloc | apply pw_below_drewN | apply below_drew1) | exact HB.out)⟩⟩
                              · rw [if_neg c30] at H
                                exact absurd H (by simp)
                            · rw [if_neg c29] at H
                              have c29b0 : decide (x15_3 < (t273.length : Int)) = false := decide_eq_false c29
                              clear c29
                              (first | rw [c29b0] | (simp only [i64_w, i32_w]; rw [c29b0]) | skip)
                              have H' := Aside0.mk H
                              clear H
                              obtain ⟨Ao32, co32, eo32⟩ := Kd.R_slice HO_6.out
                              subst eo32
                              go_wp2
                              repeat (go_quiet (fail); try go_wp2)
                              go_meet
                              case rel => exact ⟨_, (false), (by first | rfl | (simp; done) | (simp [*]; done)), H', ⟨by have := HJ3.out; have := HJ14.out; have := HK3.out; first | omega | exact Nat.le_refl _⟩, ⟨by (with_reducible repeat (first | apply Kd.R_alloc | apply Kd.R_drewN | apply Kd.R_drew)); exact HO_6.out⟩, ⟨by (with_reducible repeat (first | apply Kd.R_alloc | apply Kd.R_drewN | apply Kd.R_drew)); exact HO_9.out⟩, ⟨by (with_reducible repeat (first | apply Kd.R_alloc | apply Kd.R_drewN | apply Kd.R_drew)); exact HO_12.out⟩, ⟨by repeat (first | (with_reducible first | exact HB.out | apply below_alloc | apply pw_below_drewN | apply below_drew1) | exact HB.out)⟩⟩
                          case rest =>
                            clear HC27
                            try clear c1
                            try clear c2
                            try clear p2
                            try clear q2
                            try clear hx2
                            try clear c3
                            try clear c5
                            try clear c6
                            try clear p6
                            try clear c7
                            try clear c7b0
                            try clear c7b1
                            try clear c8
                            try clear c11
                            try clear c11b0
                            try clear c11b1
                            try clear c11b2
                            try clear c12
                            try clear c12b0
                            try clear c12b1
                            try clear c12b2
                            try clear c14
                            try clear c14b0
                            try clear c14b1
                            try clear c19
                            try clear c19b0
                            try clear c19b1
                            try clear c20
                            try clear c20b0
                            try clear c20b1
                            try clear c21
                            try clear c21b0
                            try clear c21b1
                            try clear c25
                            try clear c26
                            try clear c26b0
                            try clear p28
                            try clear q28
                            try clear hx28
                            try clear c29
                            try clear c29b0
                            try clear c30
                            try clear c30b0
                            try clear hx288_0
                            try clear hx288_1
                            try clear hx288_2
                            try clear hx288_3
                            try clear hx289_0
                            try clear hx289_1
                            try clear hx289_2
                            try clear hx289_3
                            try clear p2
                            try clear p288
                            try clear p289
                            try clear p6
                            try clear q288
                            try clear q289
                            obtain ⟨kq, x99_26, rfl, HA, HJ26, HO_6, HO_9, HO_12, HB⟩ := hcut
                            cases kq with
                            | zero => exact absurd HA.out (by simp [trufflelaw06_TokenJoin.j3])
                            | succ kj26 =>
                              have H := HA.out
                              clear HA
                              simp only [trufflelaw06_TokenJoin.j3] at H
                              by_cases c33 : x99_26 = true
                              · subst c33
                                have H1 : (some false) = some r := by rw [if_pos rfl] at H; exact H
                                clear H
                                have H := H1
                                clear H1
                                obtain rfl := Option.some.inj H
                                go_wp2
                                repeat (go_quiet (fail); try go_wp2)
                                go_ret
                                exact ⟨by first | rfl | (simp [errW_none, errW_some] <;> rfl) | (simp [*, errW_none, errW_some] <;> rfl), by repeat (first | (with_reducible first | exact HB.out | apply below_alloc | apply pw_below_drewN | apply below_drew1) | exact HB.out)⟩
                              · replace c33 := Bool.eq_false_iff.mpr c33
                                subst c33
                                have H1 : (if x15_3 ≥ (t273.length : Int) then (if 0 ≤ x15_3 then (if x15_3 < (t283.length : Int) then (if 0 ≤ (wrap64 (x15_3 - (t273.length : Int))) then (if (wrap64 (x15_3 - (t273.length : Int))) < (t278.length : Int) then (if ((rd_T29 t283 x15_3).f1).toList = ((rd_T29 t278 (wrap64 (x15_3 - (t273.length : Int)))).f1).toList then (if ((rd_T29 t283 x15_3).f0) = ((rd_T29 t278 (wrap64 (x15_3 - (t273.length : Int)))).f0) then (if ((rd_T29 t283 x15_3).f3) = (wrap64 ((wrap64 (((rd_T29 t278 (wrap64 (x15_3 - (t273.length : Int)))).f3) + (a0.size : Int))) + 1)) then (trufflelaw06_TokenJoin.l0 kj26 a0 t273 t278 t283 (wrap64 (x15_3 + 1))) else (some false)) else (some false)) else (some false)) else (none)) else (none)) else (none)) else (none)) else (trufflelaw06_TokenJoin.l0 kj26 a0 t273 t278 t283 (wrap64 (x15_3 + 1)))) = some r := by rw [if_neg (show ¬ (false = true) by decide)] at H; exact H
                                clear H
                                have H := H1
                                clear H1
                                by_cases c34 : x15_3 ≥ (t273.length : Int)
                                · rw [if_pos c34] at H
                                  have c34b0 : decide ((t273.length : Int) ≤ x15_3) = true := decide_eq_true c34
                                  clear c34
                                  by_cases c35 : 0 ≤ x15_3
                                  · rw [if_pos c35] at H
                                    have c35b0 : decide (0 ≤ x15_3) = true := decide_eq_true c35
                                    clear c35
                                    by_cases c36 : x15_3 < (t283.length : Int)
                                    · rw [if_pos c36] at H
                                      have c36b0 : decide (x15_3 < (t283.length : Int)) = true := decide_eq_true c36
                                      clear c36
                                      obtain ⟨ji37, hji37⟩ : ∃ j_ : Int, (wrap64 (x15_3 - (t273.length : Int))) = j_ := ⟨_, rfl⟩
                                      replace H : (if 0 ≤ (ji37) then (if (ji37) < (t278.length : Int) then (if ((rd_T29 t283 x15_3).f1).toList = ((rd_T29 t278 (ji37)).f1).toList then (if ((rd_T29 t283 x15_3).f0) = ((rd_T29 t278 (ji37)).f0) then (if ((rd_T29 t283 x15_3).f3) = (wrap64 ((wrap64 (((rd_T29 t278 (ji37)).f3) + (a0.size : Int))) + 1)) then (trufflelaw06_TokenJoin.l0 kj26 a0 t273 t278 t283 (wrap64 (x15_3 + 1))) else (some false)) else (some false)) else (some false)) else (none)) else (none)) = some r := by first | (rw [hji37] at H; exact H) | (simp only [hji37] at H ⊢; exact H)
                                      have hji37w : (IntKind.i64.wrap (x15_3 - (t273.length : Int))) = ji37 := (i64_w _).trans hji37
                                      by_cases c38 : 0 ≤ (ji37)
                                      · rw [if_pos c38] at H
                                        have c38b0 : decide (0 ≤ (ji37)) = true := decide_eq_true c38
                                        clear c38
                                        by_cases c39 : (ji37) < (t278.length : Int)
                                        · rw [if_pos c39] at H
                                          have c39b0 : decide ((ji37) < (t278.length : Int)) = true := decide_eq_true c39
                                          clear c39
                                          by_cases c40 : ((rd_T29 t283 x15_3).f1).toList = ((rd_T29 t278 (ji37)).f1).toList
                                          · rw [if_pos c40] at H
                                            have c40b0 : (((rd_T29 t283 x15_3).f1).toList == ((rd_T29 t278 (ji37)).f1).toList) = true := beq_iff_eq.mpr c40
                                            have c40b1 : (((rd_T29 t283 x15_3).f1).toList != ((rd_T29 t278 (ji37)).f1).toList) = false := bne_eq_false_iff_eq.mpr c40
                                            clear c40
                                            by_cases c41 : ((rd_T29 t283 x15_3).f0) = ((rd_T29 t278 (ji37)).f0)
                                            · rw [if_pos c41] at H
                                              have c41b0 : (((rd_T29 t283 x15_3).f0) == ((rd_T29 t278 (ji37)).f0)) = true := beq_iff_eq.mpr c41
                                              have c41b1 : (((rd_T29 t283 x15_3).f0) != ((rd_T29 t278 (ji37)).f0)) = false := bne_eq_false_iff_eq.mpr c41
                                              clear c41
                                              by_cases c42 : ((rd_T29 t283 x15_3).f3) = (wrap64 ((wrap64 (((rd_T29 t278 (ji37)).f3) + (a0.size : Int))) + 1))
                                              · rw [if_pos c42] at H
                                                have c42b0 : (((rd_T29 t283 x15_3).f3) == (wrap64 ((wrap64 (((rd_T29 t278 (ji37)).f3) + (a0.size : Int))) + 1))) = true := beq_iff_eq.mpr c42
                                                have c42b1 : (((rd_T29 t283 x15_3).f3) != (wrap64 ((wrap64 (((rd_T29 t278 (ji37)).f3) + (a0.size : Int))) + 1))) = false := bne_eq_false_iff_eq.mpr c42
                                                clear c42
                                                have H' := Aside0.mk H
                                                clear H
                                                obtain ⟨Ao43, co43, eo43⟩ := Kd.R_slice HO_6.out
                                                subst eo43
                                                have p290 : 0 ≤ (x15_3 : Int) := of_decide_eq_true (by first | (with_reducible assumption) | assumption)
                                                have q290 : x15_3 < (t283.length : Int) := of_decide_eq_true (by first | (with_reducible assumption) | assumption)
                                                obtain ⟨ad290, e290, hx290_0, hx290_1, hx290_2, hx290_3⟩ := at_T29 (Kd.R_reads' HO_12.out).2.2 x15_3 p290 q290
                                                cases e290
                                                replace p290 := eq_true p290
                                                replace q290 := eq_true q290
                                                obtain ⟨Ao44, co44, eo44⟩ := Kd.R_slice HO_9.out
                                                subst eo44
                                                have p291 : 0 ≤ ((ji37) : Int) := of_decide_eq_true (by first | (with_reducible assumption) | assumption)
                                                have q291 : (ji37) < (t278.length : Int) := of_decide_eq_true (by first | (with_reducible assumption) | assumption)
                                                obtain ⟨ad291, e291, hx291_0, hx291_1, hx291_2, hx291_3⟩ := at_T29 (Kd.R_reads' HO_9.out).2.2 (ji37) p291 q291
                                                cases e291
                                                replace p291 := eq_true p291
                                                replace q291 := eq_true q291
                                                have p292 : 0 ≤ (x15_3 : Int) := of_decide_eq_true (by first | (with_reducible assumption) | assumption)
                                                have q292 : x15_3 < (t283.length : Int) := of_decide_eq_true (by first | (with_reducible assumption) | assumption)
                                                obtain ⟨ad292, e292, hx292_0, hx292_1, hx292_2, hx292_3⟩ := at_T29 (Kd.R_reads' HO_12.out).2.2 x15_3 p292 q292
                                                obtain rfl : ad290 = ad292 := (by injection e292)
                                                replace p292 := eq_true p292
                                                replace q292 := eq_true q292
                                                have p293 : 0 ≤ ((ji37) : Int) := of_decide_eq_true (by first | (with_reducible assumption) | assumption)
                                                have q293 : (ji37) < (t278.length : Int) := of_decide_eq_true (by first | (with_reducible assumption) | assumption)
                                                obtain ⟨ad293, e293, hx293_0, hx293_1, hx293_2, hx293_3⟩ := at_T29 (Kd.R_reads' HO_9.out).2.2 (ji37) p293 q293
                                                obtain rfl : ad291 = ad293 := (by injection e293)
                                                replace p293 := eq_true p293
                                                replace q293 := eq_true q293
                                                have p294 : 0 ≤ (x15_3 : Int) := of_decide_eq_true (by first | (with_reducible assumption) | assumption)
                                                have q294 : x15_3 < (t283.length : Int) := of_decide_eq_true (by first | (with_reducible assumption) | assumption)
                                                obtain ⟨ad294, e294, hx294_0, hx294_1, hx294_2, hx294_3⟩ := at_T29 (Kd.R_reads' HO_12.out).2.2 x15_3 p294 q294
                                                obtain rfl : ad290 = ad294 := (by injection e294)
                                                replace p294 := eq_true p294
                                                replace q294 := eq_true q294
                                                have p295 : 0 ≤ ((ji37) : Int) := of_decide_eq_true (by first | (with_reducible assumption) | assumption)
                                                have q295 : (ji37) < (t278.length : Int) := of_decide_eq_true (by first | (with_reducible assumption) | assumption)
                                                obtain ⟨ad295, e295, hx295_0, hx295_1, hx295_2, hx295_3⟩ := at_T29 (Kd.R_reads' HO_9.out).2.2 (ji37) p295 q295
                                                obtain rfl : ad291 = ad295 := (by injection e295)
                                                replace p295 := eq_true p295
                                                replace q295 := eq_true q295
                                                go_wp2
                                                repeat (go_quiet (fail); try go_wp2)
                                                go_roundg kj26
                                                case measure => have := HJ3.out; have := HJ14.out; have := HK3.out; have := HJ26.out; omega
                                                case rel => exact ⟨(wrap64 (x15_3 + 1)), (by first | rfl | (simp; done) | (simp [*]; done)), H', ⟨by have := HJ3.out; have := HJ14.out; have := HK3.out; have := HJ26.out; omega⟩, ⟨by (with_reducible repeat (first | apply Kd.R_alloc | apply Kd.R_drewN | apply Kd.R_drew)); exact HO_6.out⟩, ⟨by (with_reducible repeat (first | apply Kd.R_alloc | apply Kd.R_drewN | apply Kd.R_drew)); exact HO_9.out⟩, ⟨by (with_reducible repeat (first | apply Kd.R_alloc | apply Kd.R_drewN | apply Kd.R_drew)); exact HO_12.out⟩, ⟨by repeat (first | (with_reducible first | exact HB.out | apply below_alloc | apply pw_below_drewN | apply below_drew1) | exact HB.out)⟩⟩
                                              · rw [if_neg c42] at H
                                                have c42b0 : (((rd_T29 t283 x15_3).f3) == (wrap64 ((wrap64 (((rd_T29 t278 (ji37)).f3) + (a0.size : Int))) + 1))) = false := beq_eq_false_iff_ne.mpr c42
                                                have c42b1 : (((rd_T29 t283 x15_3).f3) != (wrap64 ((wrap64 (((rd_T29 t278 (ji37)).f3) + (a0.size : Int))) + 1))) = true := bne_iff_ne.mpr c42
                                                obtain rfl := Option.some.inj H
                                                obtain ⟨Ao45, co45, eo45⟩ := Kd.R_slice HO_6.out
                                                subst eo45
                                                have p290 : 0 ≤ (x15_3 : Int) := of_decide_eq_true (by first | (with_reducible assumption) | assumption)
                                                have q290 : x15_3 < (t283.length : Int) := of_decide_eq_true (by first | (with_reducible assumption) | assumption)
                                                obtain ⟨ad290, e290, hx290_0, hx290_1, hx290_2, hx290_3⟩ := at_T29 (Kd.R_reads' HO_12.out).2.2 x15_3 p290 q290
                                                cases e290
                                                replace p290 := eq_true p290
                                                replace q290 := eq_true q290
                                                obtain ⟨Ao46, co46, eo46⟩ := Kd.R_slice HO_9.out
                                                subst eo46
                                                have p291 : 0 ≤ ((ji37) : Int) := of_decide_eq_true (by first | (with_reducible assumption) | assumption)
                                                have q291 : (ji37) < (t278.length : Int) := of_decide_eq_true (by first | (with_reducible assumption) | assumption)
                                                obtain ⟨ad291, e291, hx291_0, hx291_1, hx291_2, hx291_3⟩ := at_T29 (Kd.R_reads' HO_9.out).2.2 (ji37) p291 q291
                                                cases e291
                                                replace p291 := eq_true p291
                                                replace q291 := eq_true q291
                                                have p292 : 0 ≤ (x15_3 : Int) := of_decide_eq_true (by first | (with_reducible assumption) | assumption)
                                                have q292 : x15_3 < (t283.length : Int) := of_decide_eq_true (by first | (with_reducible assumption) | assumption)
                                                obtain ⟨ad292, e292, hx292_0, hx292_1, hx292_2, hx292_3⟩ := at_T29 (Kd.R_reads' HO_12.out).2.2 x15_3 p292 q292
                                                obtain rfl : ad290 = ad292 := (by injection e292)
                                                replace p292 := eq_true p292
                                                replace q292 := eq_true q292
                                                have p293 : 0 ≤ ((ji37) : Int) := of_decide_eq_true (by first | (with_reducible assumption) | assumption)
                                                have q293 : (ji37) < (t278.length : Int) := of_decide_eq_true (by first | (with_reducible assumption) | assumption)
                                                obtain ⟨ad293, e293, hx293_0, hx293_1, hx293_2, hx293_3⟩ := at_T29 (Kd.R_reads' HO_9.out).2.2 (ji37) p293 q293
                                                obtain rfl : ad291 = ad293 := (by injection e293)
                                                replace p293 := eq_true p293
                                                replace q293 := eq_true q293
                                                have p294 : 0 ≤ (x15_3 : Int) := of_decide_eq_true (by first | (with_reducible assumption) | assumption)
                                                have q294 : x15_3 < (t283.length : Int) := of_decide_eq_true (by first | (with_reducible assumption) | assumption)
                                                obtain ⟨ad294, e294, hx294_0, hx294_1, hx294_2, hx294_3⟩ := at_T29 (Kd.R_reads' HO_12.out).2.2 x15_3 p294 q294
                                                obtain rfl : ad290 = ad294 := (by injection e294)
                                                replace p294 := eq_true p294
                                                replace q294 := eq_true q294
                                                have p295 : 0 ≤ ((ji37) : Int) := of_decide_eq_true (by first | (with_reducible assumption) | assumption)
                                                have q295 : (ji37) < (t278.length : Int) := of_decide_eq_true (by first | (with_reducible assumption) | assumption)
                                                obtain ⟨ad295, e295, hx295_0, hx295_1, hx295_2, hx295_3⟩ := at_T29 (Kd.R_reads' HO_9.out).2.2 (ji37) p295 q295
                                                obtain rfl : ad291 = ad295 := (by injection e295)
                                                replace p295 := eq_true p295
                                                replace q295 := eq_true q295
                                                go_wp2
                                                repeat (go_quiet (fail); try go_wp2)
                                                go_ret
                                                exact ⟨by first | rfl | (simp [errW_none, errW_some] <;> rfl) | (simp only [← hji37]; first | rfl | (simp [errW_none, errW_some] <;> rfl)) | (simp [*, errW_none, errW_some] <;> rfl), by repeat (first | (with_reducible first | exact HB.out | apply below_alloc | apply pw_below_drewN | apply below_drew1) | exact HB.out)⟩
                                            · rw [if_neg c41] at H
                                              have c41b0 : (((rd_T29 t283 x15_3).f0) == ((rd_T29 t278 (ji37)).f0)) = false := beq_eq_false_iff_ne.mpr c41
                                              have c41b1 : (((rd_T29 t283 x15_3).f0) != ((rd_T29 t278 (ji37)).f0)) = true := bne_iff_ne.mpr c41
                                              obtain rfl := Option.some.inj H
                                              obtain ⟨Ao47, co47, eo47⟩ := Kd.R_slice HO_6.out
                                              subst eo47
                                              have p290 : 0 ≤ (x15_3 : Int) := of_decide_eq_true (by first | (with_reducible assumption) | assumption)
                                              have q290 : x15_3 < (t283.length : Int) := of_decide_eq_true (by first | (with_reducible assumption) | assumption)
                                              obtain ⟨ad290, e290, hx290_0, hx290_1, hx290_2, hx290_3⟩ := at_T29 (Kd.R_reads' HO_12.out).2.2 x15_3 p290 q290
                                              cases e290
                                              replace p290 := eq_true p290
                                              replace q290 := eq_true q290
                                              obtain ⟨Ao48, co48, eo48⟩ := Kd.R_slice HO_9.out
                                              subst eo48
                                              have p291 : 0 ≤ ((ji37) : Int) := of_decide_eq_true (by first | (with_reducible assumption) | assumption)
                                              have q291 : (ji37) < (t278.length : Int) := of_decide_eq_true (by first | (with_reducible assumption) | assumption)
                                              obtain ⟨ad291, e291, hx291_0, hx291_1, hx291_2, hx291_3⟩ := at_T29 (Kd.R_reads' HO_9.out).2.2 (ji37) p291 q291
                                              cases e291
                                              replace p291 := eq_true p291
                                              replace q291 := eq_true q291
                                              have p292 : 0 ≤ (x15_3 : Int) := of_decide_eq_true (by first | (with_reducible assumption) | assumption)
                                              have q292 : x15_3 < (t283.length : Int) := of_decide_eq_true (by first | (with_reducible assumption) | assumption)
                                              obtain ⟨ad292, e292, hx292_0, hx292_1, hx292_2, hx292_3⟩ := at_T29 (Kd.R_reads' HO_12.out).2.2 x15_3 p292 q292
                                              obtain rfl : ad290 = ad292 := (by injection e292)
                                              replace p292 := eq_true p292
                                              replace q292 := eq_true q292
                                              have p293 : 0 ≤ ((ji37) : Int) := of_decide_eq_true (by first | (with_reducible assumption) | assumption)
                                              have q293 : (ji37) < (t278.length : Int) := of_decide_eq_true (by first | (with_reducible assumption) | assumption)
                                              obtain ⟨ad293, e293, hx293_0, hx293_1, hx293_2, hx293_3⟩ := at_T29 (Kd.R_reads' HO_9.out).2.2 (ji37) p293 q293
                                              obtain rfl : ad291 = ad293 := (by injection e293)
                                              replace p293 := eq_true p293
                                              replace q293 := eq_true q293
                                              go_wp2
                                              repeat (go_quiet (fail); try go_wp2)
                                              go_ret
                                              exact ⟨by first | rfl | (simp [errW_none, errW_some] <;> rfl) | (simp only [← hji37]; first | rfl | (simp [errW_none, errW_some] <;> rfl)) | (simp [*, errW_none, errW_some] <;> rfl), by repeat (first | (with_reducible first | exact HB.out | apply below_alloc | apply pw_below_drewN | apply below_drew1) | exact HB.out)⟩
                                          · rw [if_neg c40] at H
                                            have c40b0 : (((rd_T29 t283 x15_3).f1).toList == ((rd_T29 t278 (ji37)).f1).toList) = false := beq_eq_false_iff_ne.mpr c40
                                            have c40b1 : (((rd_T29 t283 x15_3).f1).toList != ((rd_T29 t278 (ji37)).f1).toList) = true := bne_iff_ne.mpr c40
                                            obtain rfl := Option.some.inj H
                                            obtain ⟨Ao49, co49, eo49⟩ := Kd.R_slice HO_6.out
                                            subst eo49
                                            have p290 : 0 ≤ (x15_3 : Int) := of_decide_eq_true (by first | (with_reducible assumption) | assumption)
                                            have q290 : x15_3 < (t283.length : Int) := of_decide_eq_true (by first | (with_reducible assumption) | assumption)
                                            obtain ⟨ad290, e290, hx290_0, hx290_1, hx290_2, hx290_3⟩ := at_T29 (Kd.R_reads' HO_12.out).2.2 x15_3 p290 q290
                                            cases e290
                                            replace p290 := eq_true p290
                                            replace q290 := eq_true q290
                                            obtain ⟨Ao50, co50, eo50⟩ := Kd.R_slice HO_9.out
                                            subst eo50
                                            have p291 : 0 ≤ ((ji37) : Int) := of_decide_eq_true (by first | (with_reducible assumption) | assumption)
                                            have q291 : (ji37) < (t278.length : Int) := of_decide_eq_true (by first | (with_reducible assumption) | assumption)
                                            obtain ⟨ad291, e291, hx291_0, hx291_1, hx291_2, hx291_3⟩ := at_T29 (Kd.R_reads' HO_9.out).2.2 (ji37) p291 q291
                                            cases e291
                                            replace p291 := eq_true p291
                                            replace q291 := eq_true q291
                                            go_wp2
                                            repeat (go_quiet (fail); try go_wp2)
                                            go_ret
                                            exact ⟨by first | rfl | (simp [errW_none, errW_some] <;> rfl) | (simp only [← hji37]; first | rfl | (simp [errW_none, errW_some] <;> rfl)) | (simp [*, errW_none, errW_some] <;> rfl), by repeat (first | (with_reducible first | exact HB.out | apply below_alloc | apply pw_below_drewN | apply below_drew1) | exact HB.out)⟩
                                        · rw [if_neg c39] at H
                                          exact absurd H (by simp)
                                      · rw [if_neg c38] at H
                                        exact absurd H (by simp)
                                    · rw [if_neg c36] at H
                                      exact absurd H (by simp)
                                  · rw [if_neg c35] at H
                                    exact absurd H (by simp)
                                · rw [if_neg c34] at H
                                  have c34b0 : decide ((t273.length : Int) ≤ x15_3) = false := decide_eq_false c34
                                  clear c34
                                  have H' := Aside0.mk H
                                  clear H
                                  obtain ⟨Ao51, co51, eo51⟩ := Kd.R_slice HO_6.out
                                  subst eo51
                                  go_wp2
                                  repeat (go_quiet (fail); try go_wp2)
                                  go_roundg kj26
                                  case measure => have := HJ3.out; have := HJ14.out; have := HK3.out; have := HJ26.out; omega
                                  case rel => exact ⟨(wrap64 (x15_3 + 1)), (by first | rfl | (simp; done) | (simp [*]; done)), H', ⟨by have := HJ3.out; have := HJ14.out; have := HK3.out; have := HJ26.out; omega⟩, ⟨by (with_reducible repeat (first | apply Kd.R_alloc | apply Kd.R_drewN | apply Kd.R_drew)); exact HO_6.out⟩, ⟨by (with_reducible repeat (first | apply Kd.R_alloc | apply Kd.R_drewN | apply Kd.R_drew)); exact HO_9.out⟩, ⟨by (with_reducible repeat (first | apply Kd.R_alloc | apply Kd.R_drewN | apply Kd.R_drew)); exact HO_12.out⟩, ⟨by repeat (first | (with_reducible first | exact HB.out | apply below_alloc | apply pw_below_drewN | apply below_drew1) | exact HB.out)⟩⟩
                        · rw [if_neg c26] at H
                          have c26b0 : decide (x15_3 < (t283.length : Int)) = false := decide_eq_false c26
                          clear c26
                          obtain rfl := Option.some.inj H
                          obtain ⟨Ao52, co52, eo52⟩ := Kd.R_slice HO_12.out
                          subst eo52
                          go_wp2
                          repeat (go_quiet (fail); try go_wp2)
                          go_ret
                          exact ⟨by first | rfl | (simp [errW_none, errW_some] <;> rfl) | (simp [*, errW_none, errW_some] <;> rfl), by repeat (first | (with_reducible first | exact HB.out | apply below_alloc | apply pw_below_drewN | apply below_drew1) | exact HB.out)⟩
            · rw [if_neg c14] at H
              have c14b0 : (t275 == 0) = false := beq_eq_false_iff_ne.mpr c14
              have c14b1 : (t275 != 0) = true := bne_iff_ne.mpr c14
              obtain rfl := Option.some.inj H
              go_wp2_with (first | (go_at_call 16; (with_reducible refine (token_All.calls a0 t273 t274 t275 _ ?side1 A9.out).mono ?_); (case side1 => exact hG.below (by repeat (first | (with_reducible first | exact HB.out | apply below_alloc | apply pw_below_drewN | apply below_drew1) | exact HB.out))); rintro e w53 ⟨v276, rfl, ho0, hb⟩; have n0_ := Aside0.mk (Kd.R_lower ho0 (below_size (by repeat (first | (with_reducible first | exact HB.out | apply below_alloc | apply pw_below_drewN | apply below_drew1) | exact HB.out)))); have n1_ := Aside0.mk (below_step (by repeat (first | (with_reducible first | exact HB.out | apply below_alloc | apply pw_below_drewN | apply below_drew1) | exact HB.out)) hb); clear HB; have HO277 := n0_; have HB := n1_; clear n0_ n1_; (try clear hb); (try clear hb2); (try clear hk); (try clear hi); (try clear ho0)) | (go_at_call 16; (with_reducible refine (token_All.calls a1 t278 t279 t280 _ ?side1 A10.out).mono ?_); (case side1 => exact hG.below (by repeat (first | (with_reducible first | exact HB.out | apply below_alloc | apply pw_below_drewN | apply below_drew1) | exact HB.out))); rintro e w54 ⟨v281, rfl, ho0, hb⟩; have n0_ := Aside0.mk (Kd.R_elder' (by (with_reducible repeat (first | apply Kd.R_alloc | apply Kd.R_drewN | apply Kd.R_drew)); exact HO277.out) (Kd.R_base ho0) hb); have n1_ := Aside0.mk (Kd.R_lower (Kd.R_new' ho0 (Kd.R_lt (by (with_reducible repeat (first | apply Kd.R_alloc | apply Kd.R_drewN | apply Kd.R_drew)); exact HO277.out))) (below_size (by repeat (first | (with_reducible first | exact HB.out | apply below_alloc | apply pw_below_drewN | apply below_drew1) | exact HB.out)))); have n2_ := Aside0.mk (below_step (by repeat (first | (with_reducible first | exact HB.out | apply below_alloc | apply pw_below_drewN | apply below_drew1) | exact HB.out)) hb); clear HO277; clear HB; have HO277 := n0_; have HO282 := n1_; have HB := n2_; clear n0_ n1_ n2_; (try clear hb); (try clear hb2); (try clear hk); (try clear hi); (try clear ho0)) | (go_at_call 16; (with_reducible refine (token_All.calls ((a0 ++ (⟨#[10]⟩ : ByteArray)) ++ a1) t283 t284 t285 _ ?side1 A13.out).mono ?_); (case side1 => exact hG.below (by repeat (first | (with_reducible first | exact HB.out | apply below_alloc | apply pw_below_drewN | apply below_drew1) | exact HB.out))); rintro e w55 ⟨v286, rfl, ho0, hb⟩; have n0_ := Aside0.mk (Kd.R_elder' (by (with_reducible repeat (first | apply Kd.R_alloc | apply Kd.R_drewN | apply Kd.R_drew)); exact HO277.out) (Kd.R_base ho0) hb); have n1_ := Aside0.mk (Kd.R_elder' (by (with_reducible repeat (first | apply Kd.R_alloc | apply Kd.R_drewN | apply Kd.R_drew)); exact HO282.out) (Kd.R_base ho0) hb); have n2_ := Aside0.mk (Kd.R_lower (Kd.R_new' (Kd.R_new' ho0 (Kd.R_lt (by (with_reducible repeat (first | apply Kd.R_alloc | apply Kd.R_drewN | apply Kd.R_drew)); exact HO277.out))) (Kd.R_lt (by (with_reducible repeat (first | apply Kd.R_alloc | apply Kd.R_drewN | apply Kd.R_drew)); exact HO282.out))) (below_size (by repeat (first | (with_reducible first | exact HB.out | apply below_alloc | apply pw_below_drewN | apply below_drew1) | exact HB.out)))); have n3_ := Aside0.mk (below_step (by repeat (first | (with_reducible first | exact HB.out | apply below_alloc | apply pw_below_drewN | apply below_drew1) | exact HB.out)) hb); clear HO277; clear HO282; clear HB; have HO277 := n0_; have HO282 := n1_; have HO287 := n2_; have HB := n3_; clear n0_ n1_ n2_ n3_; (try clear hb); (try clear hb2); (try clear hk); (try clear hi); (try clear ho0)))
              repeat (go_quiet (first | (go_at_call 16; (with_reducible refine (token_All.calls a0 t273 t274 t275 _ ?side1 A9.out).mono ?_); (case side1 => exact hG.below (by repeat (first | (with_reducible first | exact HB.out | apply below_alloc | apply pw_below_drewN | apply below_drew1) | exact HB.out))); rintro e w53 ⟨v276, rfl, ho0, hb⟩; have n0_ := Aside0.mk (Kd.R_lower ho0 (below_size (by repeat (first | (with_reducible first | exact HB.out | apply below_alloc | apply pw_below_drewN | apply below_drew1) | exact HB.out)))); have n1_ := Aside0.mk (below_step (by repeat (first | (with_reducible first | exact HB.out | apply below_alloc | apply pw_below_drewN | apply below_drew1) | exact HB.out)) hb); clear HB; have HO277 := n0_; have HB := n1_; clear n0_ n1_; (try clear hb); (try clear hb2); (try clear hk); (try clear hi); (try clear ho0)) | (go_at_call 16; (with_reducible refine (token_All.calls a1 t278 t279 t280 _ ?side1 A10.out).mono ?_); (case side1 => exact hG.below (by repeat (first | (with_reducible first | exact HB.out | apply below_alloc | apply pw_below_drewN | apply below_drew1) | exact HB.out))); rintro e w54 ⟨v281, rfl, ho0, hb⟩; have n0_ := Aside0.mk (Kd.R_elder' (by (with_reducible repeat (first | apply Kd.R_alloc | apply Kd.R_drewN | apply Kd.R_drew)); exact HO277.out) (Kd.R_base ho0) hb); have n1_ := Aside0.mk (Kd.R_lower (Kd.R_new' ho0 (Kd.R_lt (by (with_reducible repeat (first | apply Kd.R_alloc | apply Kd.R_drewN | apply Kd.R_drew)); exact HO277.out))) (below_size (by repeat (first | (with_reducible first | exact HB.out | apply below_alloc | apply pw_below_drewN | apply below_drew1) | exact HB.out)))); have n2_ := Aside0.mk (below_step (by repeat (first | (with_reducible first | exact HB.out | apply below_alloc | apply pw_below_drewN | apply below_drew1) | exact HB.out)) hb); clear HO277; clear HB; have HO277 := n0_; have HO282 := n1_; have HB := n2_; clear n0_ n1_ n2_; (try clear hb); (try clear hb2); (try clear hk); (try clear hi); (try clear ho0)) | (go_at_call 16; (with_reducible refine (token_All.calls ((a0 ++ (⟨#[10]⟩ : ByteArray)) ++ a1) t283 t284 t285 _ ?side1 A13.out).mono ?_); (case side1 => exact hG.below (by repeat (first | (with_reducible first | exact HB.out | apply below_alloc | apply pw_below_drewN | apply below_drew1) | exact HB.out))); rintro e w55 ⟨v286, rfl, ho0, hb⟩; have n0_ := Aside0.mk (Kd.R_elder' (by (with_reducible repeat (first | apply Kd.R_alloc | apply Kd.R_drewN | apply Kd.R_drew)); exact HO277.out) (Kd.R_base ho0) hb); have n1_ := Aside0.mk (Kd.R_elder' (by (with_reducible repeat (first | apply Kd.R_alloc | apply Kd.R_drewN | apply Kd.R_drew)); exact HO282.out) (Kd.R_base ho0) hb); have n2_ := Aside0.mk (Kd.R_lower (Kd.R_new' (Kd.R_new' ho0 (Kd.R_lt (by (with_reducible repeat (first | apply Kd.R_alloc | apply Kd.R_drewN | apply Kd.R_drew)); exact HO277.out))) (Kd.R_lt (by (with_reducible repeat (first | apply Kd.R_alloc | apply Kd.R_drewN | apply Kd.R_drew)); exact HO282.out))) (below_size (by repeat (first | (with_reducible first | exact HB.out | apply below_alloc | apply pw_below_drewN | apply below_drew1) | exact HB.out)))); have n3_ := Aside0.mk (below_step (by repeat (first | (with_reducible first | exact HB.out | apply below_alloc | apply pw_below_drewN | apply below_drew1) | exact HB.out)) hb); clear HO277; clear HO282; clear HB; have HO277 := n0_; have HO282 := n1_; have HO287 := n2_; have HB := n3_; clear n0_ n1_ n2_ n3_; (try clear hb); (try clear hb2); (try clear hk); (try clear hi); (try clear ho0))); try go_wp2_with (first | (go_at_call 16; (with_reducible refine (token_All.calls a0 t273 t274 t275 _ ?side1 A9.out).mono ?_); (case side1 => exact hG.below (by repeat (first | (with_reducible first | exact HB.out | apply below_alloc | apply pw_below_drewN | apply below_drew1) | exact HB.out))); rintro e w53 ⟨v276, rfl, ho0, hb⟩; have n0_ := Aside0.mk (Kd.R_lower ho0 (below_size (by repeat (first | (with_reducible first | exact HB.out | apply below_alloc | apply pw_below_drewN | apply below_drew1) | exact HB.out)))); have n1_ := Aside0.mk (below_step (by repeat (first | (with_reducible first | exact HB.out | apply below_alloc | apply pw_below_drewN | apply below_drew1) | exact HB.out)) hb); clear HB; have HO277 := n0_; have HB := n1_; clear n0_ n1_; (try clear hb); (try clear hb2); (try clear hk); (try clear hi); (try clear ho0)) | (go_at_call 16; (with_reducible refine (token_All.calls a1 t278 t279 t280 _ ?side1 A10.out).mono ?_); (case side1 => exact hG.below (by repeat (first | (with_reducible first | exact HB.out | apply below_alloc | apply pw_below_drewN | apply below_drew1) | exact HB.out))); rintro e w54 ⟨v281, rfl, ho0, hb⟩; have n0_ := Aside0.mk (Kd.R_elder' (by (with_reducible repeat (first | apply Kd.R_alloc | apply Kd.R_drewN | apply Kd.R_drew)); exact HO277.out) (Kd.R_base ho0) hb); have n1_ := Aside0.mk (Kd.R_lower (Kd.R_new' ho0 (Kd.R_lt (by (with_reducible repeat (first | apply Kd.R_alloc | apply Kd.R_drewN | apply Kd.R_drew)); exact HO277.out))) (below_size (by repeat (first | (with_reducible first | exact HB.out | apply below_alloc | apply pw_below_drewN | apply below_drew1) | exact HB.out)))); have n2_ := Aside0.mk (below_step (by repeat (first | (with_reducible first | exact HB.out | apply below_alloc | apply pw_below_drewN | apply below_drew1) | exact HB.out)) hb); clear HO277; clear HB; have HO277 := n0_; have HO282 := n1_; have HB := n2_; clear n0_ n1_ n2_; (try clear hb); (try clear hb2); (try clear hk); (try clear hi); (try clear ho0)) | (go_at_call 16; (with_reducible refine (token_All.calls ((a0 ++ (⟨#[10]⟩ : ByteArray)) ++ a1) t283 t284 t285 _ ?side1 A13.out).mono ?_); (case side1 => exact hG.below (by repeat (first | (with_reducible first | exact HB.out | apply below_alloc | apply pw_below_drewN | apply below_drew1) | exact HB.out))); rintro e w55 ⟨v286, rfl, ho0, hb⟩; have n0_ := Aside0.mk (Kd.R_elder' (by (with_reducible repeat (first | apply Kd.R_alloc | apply Kd.R_drewN | apply Kd.R_drew)); exact HO277.out) (Kd.R_base ho0) hb); have n1_ := Aside0.mk (Kd.R_elder' (by (with_reducible repeat (first | apply Kd.R_alloc | apply Kd.R_drewN | apply Kd.R_drew)); exact HO282.out) (Kd.R_base ho0) hb); have n2_ := Aside0.mk (Kd.R_lower (Kd.R_new' (Kd.R_new' ho0 (Kd.R_lt (by (with_reducible repeat (first | apply Kd.R_alloc | apply Kd.R_drewN | apply Kd.R_drew)); exact HO277.out))) (Kd.R_lt (by (with_reducible repeat (first | apply Kd.R_alloc | apply Kd.R_drewN | apply Kd.R_drew)); exact HO282.out))) (below_size (by repeat (first | (with_reducible first | exact HB.out | apply below_alloc | apply pw_below_drewN | apply below_drew1) | exact HB.out)))); have n3_ := Aside0.mk (below_step (by repeat (first | (with_reducible first | exact HB.out | apply below_alloc | apply pw_below_drewN | apply below_drew1) | exact HB.out)) hb); clear HO277; clear HO282; clear HB; have HO277 := n0_; have HO282 := n1_; have HO287 := n2_; have HB := n3_; clear n0_ n1_ n2_ n3_; (try clear hb); (try clear hb2); (try clear hk); (try clear hi); (try clear ho0))))
              go_ret
              exact ⟨by first | rfl | (simp [errW_none, errW_some] <;> rfl) | (simp [*, errW_none, errW_some] <;> rfl), by repeat (first | (with_reducible first | exact HB.out | apply below_alloc | apply pw_below_drewN | apply below_drew1) | exact HB.out)⟩
          · rw [if_neg c12] at H
            exact absurd H (by simp)
        · rw [if_neg c11] at H
          exact absurd H (by simp)

/-- THE ONE PURE STATEMENT of trufflelaw06_TokenJoin: yours. -/
def trufflelaw06_TokenJoin.Pure : Prop := ∀ (a0 : ByteArray) (a1 : ByteArray), a0.size ≤ 140737488351232 → a1.size ≤ 140737488351232 → ∃ k, trufflelaw06_TokenJoin.f k a0 a1 = some true
theorem trufflelaw06_TokenJoin.walk (P : trufflelaw06_TokenJoin.Pure) (a0 : ByteArray) (a1 : ByteArray) (w : World) (w0 : a0.size ≤ 140737488351232) (w1 : a1.size ≤ 140737488351232) (hG : GInv w) :
    Calls Tryd.prog 5 #[.string a0, .string a1] w fun e w' => e = .returned (.bool true) ∧ Below w.heap.size w w' := by
  obtain ⟨k, h⟩ := P a0 a1 w0 w1
  refine (trufflelaw06_TokenJoin.calls k a0 a1 true w hG h).mono ?_
  rintro e w' ⟨rfl, hd⟩
  exact ⟨rfl, hd⟩

end Go.Proofs.YtngcojabofkbjaaDoor.P
