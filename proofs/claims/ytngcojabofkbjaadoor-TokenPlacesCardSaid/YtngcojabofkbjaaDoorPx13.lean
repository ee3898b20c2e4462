-- PRINTED by a program of this session (wip/mp.py over the kit's print) out of the translation. Not trusted: Lean checks it.
import Derived.Test.YtngcojabofkbjaaDoorPx0
import Derived.Test.YtngcojabofkbjaaDoorPx7
import Derived.Test.YtngcojabofkbjaaDoorGGInv
import Derived.Test.YtngcojabofkbjaaDoorGLex
namespace Go.Proofs.YtngcojabofkbjaaDoor.P
open Go.RowKit Go.Proofs.YtngcojabofkbjaaDoorW.PrintWords Go.Proofs.YtngcojabofkbjaaDoorW.PrintLast Go.Proofs.YtngcojabofkbjaaDoorW.PrintMore
attribute [local go_sem] max2_int min2_int max_two min_two max_three min_three max_four min_four   -- for this text's walks alone
set_option linter.unusedVariables false
set_option linter.unusedSimpArgs false

/-! ### trufflelaw06_TokenPlaces: function 4 -/
mutual
def trufflelaw06_TokenPlaces.j0 : Nat → ByteArray → Bool → Bool → Option (Bool)
  | 0, _, _, _ => none
  | k + 1, x0, x3, x17 => if x17 = true then (some x3) else ((token_All.f x0).bind fun bt265 => (if bt265.2.2 = 0 then (trufflelaw06_TokenPlaces.l0 k x0 bt265.1 bt265.2.1 (-1) 0) else (if (bt265.1.length : Int) = 0 then (if bt265.2.1 ≥ 0 then (if bt265.2.1 < (x0.size : Int) then (if bt265.2.2 = 4 then (some true) else (some (bt265.2.2 == 2))) else (some false)) else (some false)) else (some false))))
def trufflelaw06_TokenPlaces.l0 : Nat → ByteArray → List (S29) → Int → Int → Int → Option (Bool)
  | 0, _, _, _, _, _ => none
  | k + 1, x0, x4, x5, x7, x8 => if x8 < (x4.length : Int) then (if 0 ≤ x8 then (if ((rd_T29 x4 x8).f3) ≤ x7 then (trufflelaw06_TokenPlaces.j2 k x0 x4 x5 x8 true ((rd_T29 x4 x8).f0) ((rd_T29 x4 x8).f1) ((rd_T29 x4 x8).f2) ((rd_T29 x4 x8).f3)) else (if ((rd_T29 x4 x8).f3) ≥ (x0.size : Int) then (trufflelaw06_TokenPlaces.j2 k x0 x4 x5 x8 true ((rd_T29 x4 x8).f0) ((rd_T29 x4 x8).f1) ((rd_T29 x4 x8).f2) ((rd_T29 x4 x8).f3)) else (if ((rd_T29 x4 x8).f0) < 0 then (trufflelaw06_TokenPlaces.j2 k x0 x4 x5 x8 true ((rd_T29 x4 x8).f0) ((rd_T29 x4 x8).f1) ((rd_T29 x4 x8).f2) ((rd_T29 x4 x8).f3)) else (if ((rd_T29 x4 x8).f0) ≥ 4 then (trufflelaw06_TokenPlaces.j2 k x0 x4 x5 x8 true ((rd_T29 x4 x8).f0) ((rd_T29 x4 x8).f1) ((rd_T29 x4 x8).f2) ((rd_T29 x4 x8).f3)) else (if 0 ≤ ((rd_T29 x4 x8).f3) then (if ((rd_T29 x4 x8).f3) < (x0.size : Int) then (trufflelaw06_TokenPlaces.j2 k x0 x4 x5 x8 ((((rd_T29 x4 x8).f0) == 2) != ((bt x0 ((rd_T29 x4 x8).f3)) == 34)) ((rd_T29 x4 x8).f0) ((rd_T29 x4 x8).f1) ((rd_T29 x4 x8).f2) ((rd_T29 x4 x8).f3)) else (none)) else (none)))))) else (none)) else (if x5 = (x0.size : Int) then (some (decide ((x4.length : Int) ≤ 1000))) else (some false))
def trufflelaw06_TokenPlaces.j2 : Nat → ByteArray → List (S29) → Int → Int → Bool → Int → ByteArray → Int → Int → Option (Bool)
  | 0, _, _, _, _, _, _, _, _, _ => none
  | k + 1, x0, x4, x5, x8, x89, x272000, x272001, x272002, x272003 => if x89 = true then (some false) else (if x272000 = 2 then (trufflelaw06_TokenPlaces.l0 k x0 x4 x5 x272003 (wrap64 (x8 + 1))) else (if x272001.toList = ([] : List UInt8) then (some false) else (if (wrap64 (x272003 + (x272001.size : Int))) > (x0.size : Int) then (some false) else (if 0 ≤ x272003 then (if x272003 ≤ (wrap64 (x272003 + (x272001.size : Int))) then (if (wrap64 (x272003 + (x272001.size : Int))) ≤ (x0.size : Int) then (if (x0.extract (x272003 : Int).toNat ((wrap64 (x272003 + (x272001.size : Int))) : Int).toNat).toList = x272001.toList then (trufflelaw06_TokenPlaces.l0 k x0 x4 x5 x272003 (wrap64 (x8 + 1))) else (some false)) else (none)) else (none)) else (none)))))
end
def trufflelaw06_TokenPlaces.f (k : Nat) (a0 : ByteArray) : Option (Bool) := (trufflelaw06_awake.f).bind fun t264 => (if t264 = true then (trufflelaw06_TokenPlaces.j0 k a0 t264 (decide ((a0.size : Int) > 6000))) else (trufflelaw06_TokenPlaces.j0 k a0 t264 true))
theorem trufflelaw06_TokenPlaces.mono_l : ∀ k, (∀ y0 y1 y2, LeO (trufflelaw06_TokenPlaces.j0 k y0 y1 y2) (trufflelaw06_TokenPlaces.j0 (k + 1) y0 y1 y2)) ∧ (∀ y0 y1 y2 y3 y4, LeO (trufflelaw06_TokenPlaces.l0 k y0 y1 y2 y3 y4) (trufflelaw06_TokenPlaces.l0 (k + 1) y0 y1 y2 y3 y4)) ∧ (∀ y0 y1 y2 y3 y4 y5 y6 y7 y8, LeO (trufflelaw06_TokenPlaces.j2 k y0 y1 y2 y3 y4 y5 y6 y7 y8) (trufflelaw06_TokenPlaces.j2 (k + 1) y0 y1 y2 y3 y4 y5 y6 y7 y8))
  | 0 => ⟨fun _ _ _ r h => by simp [trufflelaw06_TokenPlaces.j0] at h, fun _ _ _ _ _ r h => by simp [trufflelaw06_TokenPlaces.l0] at h, fun _ _ _ _ _ _ _ _ _ r h => by simp [trufflelaw06_TokenPlaces.j2] at h⟩
  | k + 1 => by
    obtain ⟨ih0, ih1, ih2⟩ := trufflelaw06_TokenPlaces.mono_l k
    refine ⟨?_, ?_, ?_⟩
    · intro y0 y1 y2
      unfold trufflelaw06_TokenPlaces.j0
      repeat' first
      | (with_reducible exact ih0 _ _ _)
      | (with_reducible exact ih1 _ _ _ _ _)
      | (with_reducible exact ih2 _ _ _ _ _ _ _ _ _)
      | (with_reducible exact LeO.refl _)
      | (with_reducible exact LeO.none _)
      | (with_reducible refine LeO.ite ?_ ?_)
      | (with_reducible refine LeO.bind ?_ (fun _ => ?_))
      | exact ih0 _ _ _
      | exact ih1 _ _ _ _ _
      | exact ih2 _ _ _ _ _ _ _ _ _
      | exact LeO.none _
      | refine LeO.ite ?_ ?_
      | refine LeO.bind ?_ (fun _ => ?_)
    · intro y0 y1 y2 y3 y4
      unfold trufflelaw06_TokenPlaces.l0
      repeat' first
      | (with_reducible exact ih0 _ _ _)
      | (with_reducible exact ih1 _ _ _ _ _)
      | (with_reducible exact ih2 _ _ _ _ _ _ _ _ _)
      | (with_reducible exact LeO.refl _)
      | (with_reducible exact LeO.none _)
      | (with_reducible refine LeO.ite ?_ ?_)
      | (with_reducible refine LeO.bind ?_ (fun _ => ?_))
      | exact ih0 _ _ _
      | exact ih1 _ _ _ _ _
      | exact ih2 _ _ _ _ _ _ _ _ _
      | exact LeO.none _
      | refine LeO.ite ?_ ?_
      | refine LeO.bind ?_ (fun _ => ?_)
    · intro y0 y1 y2 y3 y4 y5 y6 y7 y8
      unfold trufflelaw06_TokenPlaces.j2
      repeat' first
      | (with_reducible exact ih0 _ _ _)
      | (with_reducible exact ih1 _ _ _ _ _)
      | (with_reducible exact ih2 _ _ _ _ _ _ _ _ _)
      | (with_reducible exact LeO.refl _)
      | (with_reducible exact LeO.none _)
      | (with_reducible refine LeO.ite ?_ ?_)
      | (with_reducible refine LeO.bind ?_ (fun _ => ?_))
      | exact ih0 _ _ _
      | exact ih1 _ _ _ _ _
      | exact ih2 _ _ _ _ _ _ _ _ _
      | exact LeO.none _
      | refine LeO.ite ?_ ?_
      | refine LeO.bind ?_ (fun _ => ?_)
theorem trufflelaw06_TokenPlaces.mono : ∀ a0 k, LeO (trufflelaw06_TokenPlaces.f k a0) (trufflelaw06_TokenPlaces.f (k + 1) a0) := by
  intro a0 k
  obtain ⟨ih0, ih1, ih2⟩ := trufflelaw06_TokenPlaces.mono_l k
  unfold trufflelaw06_TokenPlaces.f
  repeat' first
      | (with_reducible exact ih0 _ _ _)
      | (with_reducible exact ih1 _ _ _ _ _)
      | (with_reducible exact ih2 _ _ _ _ _ _ _ _ _)
      | (with_reducible exact LeO.refl _)
      | (with_reducible exact LeO.none _)
      | (with_reducible refine LeO.ite ?_ ?_)
      | (with_reducible refine LeO.bind ?_ (fun _ => ?_))
      | exact ih0 _ _ _
      | exact ih1 _ _ _ _ _
      | exact ih2 _ _ _ _ _ _ _ _ _
      | exact LeO.none _
      | refine LeO.ite ?_ ?_
      | refine LeO.bind ?_ (fun _ => ?_)
set_option maxHeartbeats 8000000 in
set_option maxRecDepth 100000 in
theorem trufflelaw06_TokenPlaces.calls (k : Nat) (a0 : ByteArray) (r : Bool) (w : World) (hG : GInv w) (h : trufflelaw06_TokenPlaces.f k a0 = some r) :
    Calls Tryd.prog 4 #[.string a0] w fun e w' => e = .returned (.bool r) ∧ Below w.heap.size w w' := by
  have hu29 := Tryd.underlying29
  have HB := Aside0.mk (Below.refl w.heap.size w)
  have H : ((trufflelaw06_awake.f).bind fun t264 => (if t264 = true then (trufflelaw06_TokenPlaces.j0 k a0 t264 (decide ((a0.size : Int) > 6000))) else (trufflelaw06_TokenPlaces.j0 k a0 t264 true))) = some r := h
  clear h
  replace H := Option.bind_eq_some_iff.mp H
  obtain ⟨t264, A20, H⟩ := H
  replace H : (if t264 = true then (trufflelaw06_TokenPlaces.j0 k a0 t264 (decide ((a0.size : Int) > 6000))) else (trufflelaw06_TokenPlaces.j0 k a0 t264 true)) = some r := H
  have A2 := Aside0.mk A20
  clear A20
  have HC3 := Aside0.mk H
  clear H
  go_enter Tryd.func4, Tryd.ntmps4
  go_upto_region 2 with (first | (go_at_call 15; (with_reducible refine (trufflelaw06_awake.calls  t264 _ ?side1 A2.out).mono ?_); (case side1 => exact hG.below (by repeat (first | (with_reducible first | exact HB.out | apply below_alloc | apply pw_below_drewN | apply below_drew1) | exact HB.out))); rintro e w4 ⟨rfl, hb⟩; have n0_ := Aside0.mk (below_step (by repeat (first | (with_reducible first | exact HB.out | apply below_alloc | apply pw_below_drewN | apply below_drew1) | exact HB.out)) hb); clear HB; have HB := n0_; clear n0_; (try clear hb); (try clear hb2); (try clear hk); (try clear hi)))
  repeat (go_quiet (first | (go_at_call 15; (with_reducible refine (trufflelaw06_awake.calls  t264 _ ?side1 A2.out).mono ?_); (case side1 => exact hG.below (by repeat (first | (with_reducible first | exact HB.out | apply below_alloc | apply pw_below_drewN | apply below_drew1) | exact HB.out))); rintro e w4 ⟨rfl, hb⟩; have n0_ := Aside0.mk (below_step (by repeat (first | (with_reducible first | exact HB.out | apply below_alloc | apply pw_below_drewN | apply below_drew1) | exact HB.out)) hb); clear HB; have HB := n0_; clear n0_; (try clear hb); (try clear hb2); (try clear hk); (try clear hi))); go_upto_region 2 with (first | (go_at_call 15; (with_reducible refine (trufflelaw06_awake.calls  t264 _ ?side1 A2.out).mono ?_); (case side1 => exact hG.below (by repeat (first | (with_reducible first | exact HB.out | apply below_alloc | apply pw_below_drewN | apply below_drew1) | exact HB.out))); rintro e w4 ⟨rfl, hb⟩; have n0_ := Aside0.mk (below_step (by repeat (first | (with_reducible first | exact HB.out | apply below_alloc | apply pw_below_drewN | apply below_drew1) | exact HB.out)) hb); clear HB; have HB := n0_; clear n0_; (try clear hb); (try clear hb2); (try clear hk); (try clear hi))))
  (try simp only [Act.put, List.setIfInBounds_toArray, List.set_cons_zero, List.set_cons_succ])
  go_cut [17] (fun v17 wc => ∃ (kq : Nat) (x17_2 : Bool), v17 = .bool x17_2 ∧ Aside0 (trufflelaw06_TokenPlaces.j0 kq a0 t264 x17_2 = some r) ∧ Aside0 (kq ≤ k) ∧ Aside0 (Below w.heap.size w wc))
  case first =>
    have H := HC3.out
    clear HC3
    by_cases c5 : t264 = true
    · subst c5
      have H1 : (trufflelaw06_TokenPlaces.j0 k a0 true (decide ((a0.size : Int) > 6000))) = some r := by rw [if_pos rfl] at H; exact H
      clear H
      have H := H1
      clear H1
      have H' := Aside0.mk H
      clear H
      go_wp2
      repeat (go_quiet (fail); try go_wp2)
      go_meet
      case rel => exact ⟨_, (decide ((a0.size : Int) > 6000)), (by first | rfl | (simp; done) | (simp [*]; done)), H', ⟨by first | omega | exact Nat.le_refl _⟩, ⟨by repeat (first | (with_reducible first | exact HB.out | apply below_alloc | apply pw_below_drewN | apply below_drew1) | exact HB.out)⟩⟩
    · replace c5 := Bool.eq_false_iff.mpr c5
      subst c5
      have H1 : (trufflelaw06_TokenPlaces.j0 k a0 false true) = some r := by rw [if_neg (show ¬ (false = true) by decide)] at H; exact H
      clear H
      have H := H1
      clear H1
      have H' := Aside0.mk H
      clear H
      go_wp2
      repeat (go_quiet (fail); try go_wp2)
      go_meet
      case rel => exact ⟨_, (true), (by first | rfl | (simp; done) | (simp [*]; done)), H', ⟨by first | omega | exact Nat.le_refl _⟩, ⟨by repeat (first | (with_reducible first | exact HB.out | apply below_alloc | apply pw_below_drewN | apply below_drew1) | exact HB.out)⟩⟩
  case rest =>
    clear HC3
    try clear p2
    try clear c4
    try clear c5
    obtain ⟨kq, x17_2, rfl, HA, HJ2, HB⟩ := hcut
    cases kq with
    | zero => exact absurd HA.out (by simp [trufflelaw06_TokenPlaces.j0])
    | succ kj2 =>
      have H := HA.out
      clear HA
      simp only [trufflelaw06_TokenPlaces.j0] at H
      by_cases c6 : x17_2 = true
      · subst c6
        have H1 : (some t264) = some r := by rw [if_pos rfl] at H; exact H
        clear H
        have H := H1
        clear H1
        obtain rfl := Option.some.inj H
        go_wp2
        repeat (go_quiet (fail); try go_wp2)
        go_ret
        exact ⟨by first | rfl | (simp [errW_none, errW_some] <;> rfl) | (simp [*, errW_none, errW_some] <;> rfl), by repeat (first | (with_reducible first | exact HB.out | apply below_alloc | apply pw_below_drewN | apply below_drew1) | exact HB.out)⟩
      · replace c6 := Bool.eq_false_iff.mpr c6
        subst c6
        have H1 : ((token_All.f a0).bind fun bt265 => (if bt265.2.2 = 0 then (trufflelaw06_TokenPlaces.l0 kj2 a0 bt265.1 bt265.2.1 (-1) 0) else (if (bt265.1.length : Int) = 0 then (if bt265.2.1 ≥ 0 then (if bt265.2.1 < (a0.size : Int) then (if bt265.2.2 = 4 then (some true) else (some (bt265.2.2 == 2))) else (some false)) else (some false)) else (some false)))) = some r := by rw [if_neg (show ¬ (false = true) by decide)] at H; exact H
        clear H
        have H := H1
        clear H1
        replace H := Option.bind_eq_some_iff.mp H
        obtain ⟨⟨t265, t266, t267⟩, A70, H⟩ := H
        replace H : (if t267 = 0 then (trufflelaw06_TokenPlaces.l0 kj2 a0 t265 t266 (-1) 0) else (if (t265.length : Int) = 0 then (if t266 ≥ 0 then (if t266 < (a0.size : Int) then (if t267 = 4 then (some true) else (some (t267 == 2))) else (some false)) else (some false)) else (some false))) = some r := H
        have A7 := Aside0.mk A70
        clear A70
        by_cases c8 : t267 = 0
        · rw [if_pos c8] at H
          have c8b0 : (t267 == 0) = true := beq_iff_eq.mpr c8
          have c8b1 : (t267 != 0) = false := bne_eq_false_iff_eq.mpr c8
          clear c8
          have H' := Aside0.mk H
          clear H
          go_wp2_with (first | (go_at_call 16; (with_reducible refine (token_All.calls a0 t265 t266 t267 _ ?side1 A7.out).mono ?_); (case side1 => exact hG.below (by repeat (first | (with_reducible first | exact HB.out | apply below_alloc | apply pw_below_drewN | apply below_drew1) | exact HB.out))); rintro e w9 ⟨v268, rfl, ho0, hb⟩; have n0_ := Aside0.mk (Kd.R_lower ho0 (below_size (by repeat (first | (with_reducible first | exact HB.out | apply below_alloc | apply pw_below_drewN | apply below_drew1) | exact HB.out)))); have n1_ := Aside0.mk (below_step (by repeat (first | (with_reducible first | exact HB.out | apply below_alloc | apply pw_below_drewN | apply below_drew1) | exact HB.out)) hb); clear HB; have HO269 := n0_; have HB := n1_; clear n0_ n1_; (try clear hb); (try clear hb2); (try clear hk); (try clear hi); (try clear ho0)))
          repeat (go_quiet (first | (go_at_call 16; (with_reducible refine (token_All.calls a0 t265 t266 t267 _ ?side1 A7.out).mono ?_); (case side1 => exact hG.below (by repeat (first | (with_reducible first | exact HB.out | apply below_alloc | apply pw_below_drewN | apply below_drew1) | exact HB.out))); rintro e w9 ⟨v268, rfl, ho0, hb⟩; have n0_ := Aside0.mk (Kd.R_lower ho0 (below_size (by repeat (first | (with_reducible first | exact HB.out | apply below_alloc | apply pw_below_drewN | apply below_drew1) | exact HB.out)))); have n1_ := Aside0.mk (below_step (by repeat (first | (with_reducible first | exact HB.out | apply below_alloc | apply pw_below_drewN | apply below_drew1) | exact HB.out)) hb); clear HB; have HO269 := n0_; have HB := n1_; clear n0_ n1_; (try clear hb); (try clear hb2); (try clear hk); (try clear hi); (try clear ho0))); try go_wp2_with (first | (go_at_call 16; (with_reducible refine (token_All.calls a0 t265 t266 t267 _ ?side1 A7.out).mono ?_); (case side1 => exact hG.below (by repeat (first | (with_reducible first | exact HB.out | apply below_alloc | apply pw_below_drewN | apply below_drew1) | exact HB.out))); rintro e w9 ⟨v268, rfl, ho0, hb⟩; have n0_ := Aside0.mk (Kd.R_lower ho0 (below_size (by repeat (first | (with_reducible first | exact HB.out | apply below_alloc | apply pw_below_drewN | apply below_drew1) | exact HB.out)))); have n1_ := Aside0.mk (below_step (by repeat (first | (with_reducible first | exact HB.out | apply below_alloc | apply pw_below_drewN | apply below_drew1) | exact HB.out)) hb); clear HB; have HO269 := n0_; have HB := n1_; clear n0_ n1_; (try clear hb); (try clear hb2); (try clear hk); (try clear hi); (try clear ho0))))
          go_loopg [7, 8] kj2 (fun kq v7 v8 w' => ∃ (x7_2 : Int) (x8_2 : Int), v7 = .int .i64 x7_2 ∧ v8 = .int .i64 x8_2 ∧ Aside0 (trufflelaw06_TokenPlaces.l0 kq a0 t265 t266 x7_2 x8_2 = some r) ∧ Aside0 (kq ≤ kj2) ∧ Aside0 (Kd.R k29 29 w' w.heap.size (fun _ => True) v268 t265) ∧ Aside0 (Below w.heap.size w w'))
          case atStart => exact ⟨((-1)), (0), (by first | rfl | (simp; done) | (simp [*]; done)), (by first | rfl | (simp; done) | (simp [*]; done)), H', ⟨Nat.le_refl _⟩, ⟨by (with_reducible repeat (first | apply Kd.R_alloc | apply Kd.R_drewN | apply Kd.R_drew)); exact HO269.out⟩, ⟨by repeat (first | (with_reducible first | exact HB.out | apply below_alloc | apply pw_below_drewN | apply below_drew1) | exact HB.out)⟩⟩
          case round =>
            clear H'
            try clear p2
            try clear c4
            try clear c5
            try clear c6
            try clear c8
            try clear c8b0
            try clear c8b1
            try clear p2
            obtain ⟨x7_2, x8_2, rfl, rfl, HA, HK2, HO_4, HB⟩ := hrel
            cases gk with
            | zero => exact absurd HA.out (by simp [trufflelaw06_TokenPlaces.l0])
            | succ k2 =>
              have H := HA.out
              clear HA
              simp only [trufflelaw06_TokenPlaces.l0] at H
              by_cases c10 : x8_2 < (t265.length : Int)
              · rw [if_pos c10] at H
                have c10b0 : decide (x8_2 < (t265.length : Int)) = true := decide_eq_true c10
                clear c10
                by_cases c11 : 0 ≤ x8_2
                · rw [if_pos c11] at H
                  have c11b0 : decide (0 ≤ x8_2) = true := decide_eq_true c11
                  clear c11
                  have HC12 := Aside0.mk H
                  clear H
                  obtain ⟨Ao13, co13, eo13⟩ := Kd.R_slice HO_4.out
                  subst eo13
                  have p270 : 0 ≤ (x8_2 : Int) := of_decide_eq_true (by first | (with_reducible assumption) | assumption)
                  have q270 : x8_2 < (t265.length : Int) := of_decide_eq_true (by first | (with_reducible assumption) | assumption)
                  obtain ⟨ad270, e270, hx270_0, hx270_1, hx270_2, hx270_3⟩ := at_T29 (Kd.R_reads' HO_4.out).2.2 x8_2 p270 q270
                  cases e270
                  replace p270 := eq_true p270
                  replace q270 := eq_true q270
                  go_upto_region 12 with (first | ((with_reducible refine gate_dst (N := 9) rfl ?_); (try (refine gate_guard (by rfl) ?_; dsimp only)); refine box_event ?hg (N := 9) ?hd (cs := #[.int .i64 0, .string (⟨#[]⟩ : ByteArray), .int .i64 0, .int .i64 0]) (t := 29) ?hr ?_; (case hd => rfl); (case hg => rfl); (case hr => first | (go_simp; done) | (go_simp; rfl)); intro gb271 hg w14 hbox hb; have n0_ := Aside0.mk (Kd.R_below (Kd.R_elderB (by (with_reducible repeat (first | apply Kd.R_alloc | apply Kd.R_drewN | apply Kd.R_drew)); exact HO_4.out) gb271 (Nat.le_of_eq hg.symm)) hb); have n1_ := Aside0.mk (below_step (by repeat (first | (with_reducible first | exact HB.out | apply below_alloc | apply pw_below_drewN | apply below_drew1) | exact HB.out)) hb); have n2_ := Aside0.mk (hbox); have n3_ := Aside0.mk ((by rw [hg]; exact (below_size (by repeat (first | (with_reducible first | exact HB.out | apply below_alloc | apply pw_below_drewN | apply below_drew1) | exact HB.out))) : w.heap.size ≤ gb271)); have n4_ := Aside0.mk ((by rw [hg]; exact (below_size (by repeat (first | (with_reducible first | exact HB.out | apply below_alloc | apply pw_below_drewN | apply below_drew1) | exact HB.out))) : w.heap.size ≤ gb271)); clear HO_4; clear HB; have HO_4 := n0_; have HB := n1_; have BK271 := n2_; have GW271 := n3_; have GE271 := n4_; clear n0_ n1_ n2_ n3_ n4_; clear hb hbox hg; have hcz15_0 : w14.cell? ⟨gb271, 0, none⟩ = some (.int .i64 0) := (blk_cell BK271.out 0).trans rfl; have hcz15_1 : w14.cell? ⟨gb271, 1, none⟩ = some (.string (⟨#[]⟩ : ByteArray)) := (blk_cell BK271.out 1).trans rfl; have hcz15_2 : w14.cell? ⟨gb271, 2, none⟩ = some (.int .i64 0) := (blk_cell BK271.out 2).trans rfl; have hcz15_3 : w14.cell? ⟨gb271, 3, none⟩ = some (.int .i64 0) := (blk_cell BK271.out 3).trans rfl; have hfz15_0 := blk_frozen BK271.out 0; have hfz15_1 := blk_frozen BK271.out 1; have hfz15_2 := blk_frozen BK271.out 2; have hfz15_3 := blk_frozen BK271.out 3))
                  repeat (go_quiet (first | ((with_reducible refine gate_dst (N := 9) rfl ?_); (try (refine gate_guard (by rfl) ?_; dsimp only)); refine box_event ?hg (N := 9) ?hd (cs := #[.int .i64 0, .string (⟨#[]⟩ : ByteArray), .int .i64 0, .int .i64 0]) (t := 29) ?hr ?_; (case hd => rfl); (case hg => rfl); (case hr => first | (go_simp; done) | (go_simp; rfl)); intro gb271 hg w14 hbox hb; have n0_ := Aside0.mk (Kd.R_below (Kd.R_elderB (by (with_reducible repeat (first | apply Kd.R_alloc | apply Kd.R_drewN | apply Kd.R_drew)); exact HO_4.out) gb271 (Nat.le_of_eq hg.symm)) hb); have n1_ := Aside0.mk (below_step (by repeat (first | (with_reducible first | exact HB.out | apply below_alloc | apply pw_below_drewN | apply below_drew1) | exact HB.out)) hb); have n2_ := Aside0.mk (hbox); have n3_ := Aside0.mk ((by rw [hg]; exact (below_size (by repeat (first | (with_reducible first | exact HB.out | apply below_alloc | apply pw_below_drewN | apply below_drew1) | exact HB.out))) : w.heap.size ≤ gb271)); have n4_ := Aside0.mk ((by rw [hg]; exact (below_size (by repeat (first | (with_reducible first | exact HB.out | apply below_alloc | apply pw_below_drewN | apply below_drew1) | exact HB.out))) : w.heap.size ≤ gb271)); clear HO_4; clear HB; have HO_4 := n0_; have HB := n1_; have BK271 := n2_; have GW271 := n3_; have GE271 := n4_; clear n0_ n1_ n2_ n3_ n4_; clear hb hbox hg; have hcz15_0 : w14.cell? ⟨gb271, 0, none⟩ = some (.int .i64 0) := (blk_cell BK271.out 0).trans rfl; have hcz15_1 : w14.cell? ⟨gb271, 1, none⟩ = some (.string (⟨#[]⟩ : ByteArray)) := (blk_cell BK271.out 1).trans rfl; have hcz15_2 : w14.cell? ⟨gb271, 2, none⟩ = some (.int .i64 0) := (blk_cell BK271.out 2).trans rfl; have hcz15_3 : w14.cell? ⟨gb271, 3, none⟩ = some (.int .i64 0) := (blk_cell BK271.out 3).trans rfl; have hfz15_0 := blk_frozen BK271.out 0; have hfz15_1 := blk_frozen BK271.out 1; have hfz15_2 := blk_frozen BK271.out 2; have hfz15_3 := blk_frozen BK271.out 3)); go_upto_region 12 with (first | ((with_reducible refine gate_dst (N := 9) rfl ?_); (try (refine gate_guard (by rfl) ?_; dsimp only)); refine box_event ?hg (N := 9) ?hd (cs := #[.int .i64 0, .string (⟨#[]⟩ : ByteArray), .int .i64 0, .int .i64 0]) (t := 29) ?hr ?_; (case hd => rfl); (case hg => rfl); (case hr => first | (go_simp; done) | (go_simp; rfl)); intro gb271 hg w14 hbox hb; have n0_ := Aside0.mk (Kd.R_below (Kd.R_elderB (by (with_reducible repeat (first | apply Kd.R_alloc | apply Kd.R_drewN | apply Kd.R_drew)); exact HO_4.out) gb271 (Nat.le_of_eq hg.symm)) hb); have n1_ := Aside0.mk (below_step (by repeat (first | (with_reducible first | exact HB.out | apply below_alloc | apply pw_below_drewN | apply below_drew1) | exact HB.out)) hb); have n2_ := Aside0.mk (hbox); have n3_ := Aside0.mk ((by rw [hg]; exact (below_size (by repeat (first | (with_reducible first | exact HB.out | apply below_alloc | apply pw_below_drewN | apply below_drew1) | exact HB.out))) : w.heap.size ≤ gb271)); have n4_ := Aside0.mk ((by rw [hg]; exact (below_size (by repeat (first | (with_reducible first | exact HB.out | apply below_alloc | apply pw_below_drewN | apply below_drew1) | exact HB.out))) : w.heap.size ≤ gb271)); clear HO_4; clear HB; have HO_4 := n0_; have HB := n1_; have BK271 := n2_; have GW271 := n3_; have GE271 := n4_; clear n0_ n1_ n2_ n3_ n4_; clear hb hbox hg; have hcz15_0 : w14.cell? ⟨gb271, 0, none⟩ = some (.int .i64 0) := (blk_cell BK271.out 0).trans rfl; have hcz15_1 : w14.cell? ⟨gb271, 1, none⟩ = some (.string (⟨#[]⟩ : ByteArray)) := (blk_cell BK271.out 1).trans rfl; have hcz15_2 : w14.cell? ⟨gb271, 2, none⟩ = some (.int .i64 0) := (blk_cell BK271.out 2).trans rfl; have hcz15_3 : w14.cell? ⟨gb271, 3, none⟩ = some (.int .i64 0) := (blk_cell BK271.out 3).trans rfl; have hfz15_0 := blk_frozen BK271.out 0; have hfz15_1 := blk_frozen BK271.out 1; have hfz15_2 := blk_frozen BK271.out 2; have hfz15_3 := blk_frozen BK271.out 3)))
                  (try simp only [Act.put, List.setIfInBounds_toArray, List.set_cons_zero, List.set_cons_succ])
                  go_cut [89] (fun v89 wc => ∃ (kq : Nat) (x89_11 : Bool), v89 = .bool x89_11 ∧ Aside0 (trufflelaw06_TokenPlaces.j2 kq a0 t265 t266 x8_2 x89_11 ((rd_T29 t265 x8_2).f0) ((rd_T29 t265 x8_2).f1) ((rd_T29 t265 x8_2).f2) ((rd_T29 t265 x8_2).f3) = some r) ∧ Aside0 (kq ≤ k2) ∧ Aside0 (Kd.R k29 29 wc w.heap.size (fun k_ => k_ ≠ gb271) (.slice (some ad270) t265.length co13) t265) ∧ Aside0 (wc.heap[gb271]? = some (.cells #[.int .i64 ((rd_T29 t265 x8_2).f0), .string ((rd_T29 t265 x8_2).f1), .int .i64 ((rd_T29 t265 x8_2).f2), .int .i64 ((rd_T29 t265 x8_2).f3)] 29 (0, 0))) ∧ Aside0 (Below w.heap.size w wc))
                  case first =>
                    have H := HC12.out
                    clear HC12
                    by_cases c16 : ((rd_T29 t265 x8_2).f3) ≤ x7_2
                    · rw [if_pos c16] at H
                      have c16b0 : decide (((rd_T29 t265 x8_2).f3) ≤ x7_2) = true := decide_eq_true c16
                      clear c16
                      (first | rw [c16b0] | (simp only [i64_w, i32_w]; rw [c16b0]) | skip)
                      have H' := Aside0.mk H
                      clear H
                      have hcz17_0 : w14.cell? ⟨gb271, 0, none⟩ = some (.int .i64 0) := (blk_cell BK271.out 0).trans rfl
                      have hcz17_1 : w14.cell? ⟨gb271, 1, none⟩ = some (.string (⟨#[]⟩ : ByteArray)) := (blk_cell BK271.out 1).trans rfl
                      have hcz17_2 : w14.cell? ⟨gb271, 2, none⟩ = some (.int .i64 0) := (blk_cell BK271.out 2).trans rfl
                      have hcz17_3 : w14.cell? ⟨gb271, 3, none⟩ = some (.int .i64 0) := (blk_cell BK271.out 3).trans rfl
                      have hfz17_0 := blk_frozen BK271.out 0
                      have hfz17_1 := blk_frozen BK271.out 1
                      have hfz17_2 := blk_frozen BK271.out 2
                      have hfz17_3 := blk_frozen BK271.out 3
                      go_wp2
                      repeat (go_quiet (fail); try go_wp2)
                      go_meet
                      case rel => exact ⟨_, (true), (by first | rfl | (simp; done) | (simp [*]; done)), H', ⟨by have := HJ2.out; have := HK2.out; first | omega | exact Nat.le_refl _⟩, ⟨by (with_reducible repeat (first | apply Kd.R_alloc | apply Kd.R_drewN | apply Kd.R_drew)); exact Kd.R_mono (Kd.R_far (p := ⟨gb271, 3, none⟩) (Kd.R_far (p := ⟨gb271, 2, none⟩) (Kd.R_far (p := ⟨gb271, 1, none⟩) (Kd.R_far (p := ⟨gb271, 0, none⟩) (Kd.R_mono HO_4.out (fun k_ hk => (⟨hk, hk.2⟩ : _ ∧ k_ ≠ gb271))) (fun _ hk => hk.2) (.int .i64 ((rd_T29 t265 x8_2).f0))) (fun _ hk => hk.2) (.string ((rd_T29 t265 x8_2).f1))) (fun _ hk => hk.2) (.int .i64 ((rd_T29 t265 x8_2).f2))) (fun _ hk => hk.2) (.int .i64 ((rd_T29 t265 x8_2).f3))) (fun _ hk => hk.1.2)⟩, ⟨by (with_reducible repeat (first | refine blk_drewN ?_ _ | refine blk_drew ?_ | refine blk_alloc ?_ _)); refine blk_put (cs := #[.int .i64 ((rd_T29 t265 x8_2).f0), .string ((rd_T29 t265 x8_2).f1), .int .i64 ((rd_T29 t265 x8_2).f2), .int .i64 0]) ?_ 3 _ rfl; (with_reducible repeat (first | refine blk_drewN ?_ _ | refine blk_drew ?_ | refine blk_alloc ?_ _)); refine blk_put (cs := #[.int .i64 ((rd_T29 t265 x8_2).f0), .string ((rd_T29 t265 x8_2).f1), .int .i64 0, .int .i64 0]) ?_ 2 _ rfl; (with_reducible repeat (first | refine blk_drewN ?_ _ | refine blk_drew ?_ | refine blk_alloc ?_ _)); refine blk_put (cs := #[.int .i64 ((rd_T29 t265 x8_2).f0), .string (⟨#[]⟩ : ByteArray), .int .i64 0, .int .i64 0]) ?_ 1 _ rfl; (with_reducible repeat (first | refine blk_drewN ?_ _ | refine blk_drew ?_ | refine blk_alloc ?_ _)); refine blk_put (cs := #[.int .i64 0, .string (⟨#[]⟩ : ByteArray), .int .i64 0, .int .i64 0]) ?_ 0 _ rfl; (with_reducible repeat (first | refine blk_drewN ?_ _ | refine blk_drew ?_ | refine blk_alloc ?_ _)); exact BK271.out⟩, ⟨by repeat (first | (with_reducible first | exact HB.out | apply below_alloc | apply pw_below_drewN | apply below_drew1 | refine below_set ?_ GE271.out) | exact HB.out)⟩⟩
                    · rw [if_neg c16] at H
                      have c16b0 : decide (((rd_T29 t265 x8_2).f3) ≤ x7_2) = false := decide_eq_false c16
                      clear c16
                      (first | rw [c16b0] | (simp only [i64_w, i32_w]; rw [c16b0]) | skip)
                      by_cases c18 : ((rd_T29 t265 x8_2).f3) ≥ (a0.size : Int)
                      · rw [if_pos c18] at H
                        have c18b0 : decide ((a0.size : Int) ≤ ((rd_T29 t265 x8_2).f3)) = true := decide_eq_true c18
                        clear c18
                        have H' := Aside0.mk H
                        clear H
                        have hcz19_0 : w14.cell? ⟨gb271, 0, none⟩ = some (.int .i64 0) := (blk_cell BK271.out 0).trans rfl
                        have hcz19_1 : w14.cell? ⟨gb271, 1, none⟩ = some (.string (⟨#[]⟩ : ByteArray)) := (blk_cell BK271.out 1).trans rfl
                        have hcz19_2 : w14.cell? ⟨gb271, 2, none⟩ = some (.int .i64 0) := (blk_cell BK271.out 2).trans rfl
                        have hcz19_3 : w14.cell? ⟨gb271, 3, none⟩ = some (.int .i64 0) := (blk_cell BK271.out 3).trans rfl
                        have hfz19_0 := blk_frozen BK271.out 0
                        have hfz19_1 := blk_frozen BK271.out 1
                        have hfz19_2 := blk_frozen BK271.out 2
                        have hfz19_3 := blk_frozen BK271.out 3
                        go_wp2
                        repeat (go_quiet (fail); try go_wp2)
                        go_meet
                        case rel => exact ⟨_, (true), (by first | rfl | (simp; done) | (simp [*]; done)), H', ⟨by have := HJ2.out; have := HK2.out; first | omega | exact Nat.le_refl _⟩, ⟨by (with_reducible repeat (first | apply Kd.R_alloc | apply Kd.R_drewN | apply Kd.R_drew)); exact Kd.R_mono (Kd.R_far (p := ⟨gb271, 3, none⟩) (Kd.R_far (p := ⟨gb271, 2, none⟩) (Kd.R_far (p := ⟨gb271, 1, none⟩) (Kd.R_far (p := ⟨gb271, 0, none⟩) (Kd.R_mono HO_4.out (fun k_ hk => (⟨hk, hk.2⟩ : _ ∧ k_ ≠ gb271))) (fun _ hk => hk.2) (.int .i64 ((rd_T29 t265 x8_2).f0))) (fun _ hk => hk.2) (.string ((rd_T29 t265 x8_2).f1))) (fun _ hk => hk.2) (.int .i64 ((rd_T29 t265 x8_2).f2))) (fun _ hk => hk.2) (.int .i64 ((rd_T29 t265 x8_2).f3))) (fun _ hk => hk.1.2)⟩, ⟨by (with_reducible repeat (first | refine blk_drewN ?_ _ | refine blk_drew ?_ | refine blk_alloc ?_ _)); refine blk_put (cs := #[.int .i64 ((rd_T29 t265 x8_2).f0), .string ((rd_T29 t265 x8_2).f1), .int .i64 ((rd_T29 t265 x8_2).f2), .int .i64 0]) ?_ 3 _ rfl; (with_reducible repeat (first | refine blk_drewN ?_ _ | refine blk_drew ?_ | refine blk_alloc ?_ _)); refine blk_put (cs := #[.int .i64 ((rd_T29 t265 x8_2).f0), .string ((rd_T29 t265 x8_2).f1), .int .i64 0, .int .i64 0]) ?_ 2 _ rfl; (with_reducible repeat (first | refine blk_drewN ?_ _ | refine blk_drew ?_ | refine blk_alloc ?_ _)); refine blk_put (cs := #[.int .i64 ((rd_T29 t265 x8_2).f0), .string (⟨#[]⟩ : ByteArray), .int .i64 0, .int .i64 0]) ?_ 1 _ rfl; (with_reducible repeat (first | refine blk_drewN ?_ _ | refine blk_drew ?_ | refine blk_alloc ?_ _)); refine blk_put (cs := #[.int .i64 0, .string (⟨#[]⟩ : ByteArray), .int .i64 0, .int .i64 0]) ?_ 0 _ rfl; (with_reducible repeat (first | refine blk_drewN ?_ _ | refine blk_drew ?_ | refine blk_alloc ?_ _)); exact BK271.out⟩, ⟨by repeat (first | (with_reducible first | exact HB.out | apply below_alloc | apply pw_below_drewN | apply below_drew1 | refine below_set ?_ GE271.out) | exact HB.out)⟩⟩
                      · rw [if_neg c18] at H
                        have c18b0 : decide ((a0.size : Int) ≤ ((rd_T29 t265 x8_2).f3)) = false := decide_eq_false c18
                        clear c18
                        by_cases c20 : ((rd_T29 t265 x8_2).f0) < 0
                        · rw [if_pos c20] at H
                          have c20b0 : decide (((rd_T29 t265 x8_2).f0) < 0) = true := decide_eq_true c20
                          clear c20
                          have H' := Aside0.mk H
                          clear H
                          have hcz21_0 : w14.cell? ⟨gb271, 0, none⟩ = some (.int .i64 0) := (blk_cell BK271.out 0).trans rfl
                          have hcz21_1 : w14.cell? ⟨gb271, 1, none⟩ = some (.string (⟨#[]⟩ : ByteArray)) := (blk_cell BK271.out 1).trans rfl
                          have hcz21_2 : w14.cell? ⟨gb271, 2, none⟩ = some (.int .i64 0) := (blk_cell BK271.out 2).trans rfl
                          have hcz21_3 : w14.cell? ⟨gb271, 3, none⟩ = some (.int .i64 0) := (blk_cell BK271.out 3).trans rfl
                          have hfz21_0 := blk_frozen BK271.out 0
                          have hfz21_1 := blk_frozen BK271.out 1
                          have hfz21_2 := blk_frozen BK271.out 2
                          have hfz21_3 := blk_frozen BK271.out 3
                          go_wp2
                          repeat (go_quiet (fail); try go_wp2)
                          go_meet
                          case rel => exact ⟨_, (true), (by first | rfl | (simp; done) | (simp [*]; done)), H', ⟨by have := HJ2.out; have := HK2.out; first | omega | exact Nat.le_refl _⟩, ⟨by (with_reducible repeat (first | apply Kd.R_alloc | apply Kd.R_drewN | apply Kd.R_drew)); exact Kd.R_mono (Kd.R_far (p := ⟨gb271, 3, none⟩) (Kd.R_far (p := ⟨gb271, 2, none⟩) (Kd.R_far (p := ⟨gb271, 1, none⟩) (Kd.R_far (p := ⟨gb271, 0, none⟩) (Kd.R_mono HO_4.out (fun k_ hk => (⟨hk, hk.2⟩ : _ ∧ k_ ≠ gb271))) (fun _ hk => hk.2) (.int .i64 ((rd_T29 t265 x8_2).f0))) (fun _ hk => hk.2) (.string ((rd_T29 t265 x8_2).f1))) (fun _ hk => hk.2) (.int .i64 ((rd_T29 t265 x8_2).f2))) (fun _ hk => hk.2) (.int .i64 ((rd_T29 t265 x8_2).f3))) (fun _ hk => hk.1.2)⟩, ⟨by (with_reducible repeat (first | refine blk_drewN ?_ _ | refine blk_drew ?_ | refine blk_alloc ?_ _)); refine blk_put (cs := #[.int .i64 ((rd_T29 t265 x8_2).f0), .string ((rd_T29 t265 x8_2).f1), .int .i64 ((rd_T29 t265 x8_2).f2), .int .i64 0]) ?_ 3 _ rfl; (with_reducible repeat (first | refine blk_drewN ?_ _ | refine blk_drew ?_ | refine blk_alloc ?_ _)); refine blk_put (cs := #[.int .i64 ((rd_T29 t265 x8_2).f0), .string ((rd_T29 t265 x8_2).f1), .int .i64 0, .int .i64 0]) ?_ 2 _ rfl; (with_reducible repeat (first | refine blk_drewN ?_ _ | refine blk_drew ?_ | refine blk_alloc ?_ _)); refine blk_put (cs := #[.int .i64 ((rd_T29 t265 x8_2).f0), .string (⟨#[]⟩ : ByteArray), .int .i64 0, .int .i64 0]) ?_ 1 _ rfl; (with_reducible repeat (first | refine blk_drewN ?_ _ | refine blk_drew ?_ | refine blk_alloc ?_ _)); refine blk_put (cs := #[.int .i64 0, .string (⟨#[]⟩ : ByteArray), .int .i64 0, .int .i64 0]) ?_ 0 _ rfl; (with_reducible repeat (first | refine blk_drewN ?_ _ | refine blk_drew ?_ | refine blk_alloc ?_ _)); exact BK271.out⟩, ⟨by repeat (first | (with_reducible first | exact HB.out | apply below_alloc | apply pw_below_drewN | apply below_drew1 | refine below_set ?_ GE271.out) | exact HB.out)⟩⟩
                        · rw [if_neg c20] at H
                          have c20b0 : decide (((rd_T29 t265 x8_2).f0) < 0) = false := decide_eq_false c20
                          clear c20
                          by_cases c22 : ((rd_T29 t265 x8_2).f0) ≥ 4
                          · rw [if_pos c22] at H
                            have c22b0 : decide (4 ≤ ((rd_T29 t265 x8_2).f0)) = true := decide_eq_true c22
                            clear c22
                            have H' := Aside0.mk H
                            clear H
                            have hcz23_0 : w14.cell? ⟨gb271, 0, none⟩ = some (.int .i64 0) := (blk_cell BK271.out 0).trans rfl
                            have hcz23_1 : w14.cell? ⟨gb271, 1, none⟩ = some (.string (⟨#[]⟩ : ByteArray)) := (blk_cell BK271.out 1).trans rfl
                            have hcz23_2 : w14.cell? ⟨gb271, 2, none⟩ = some (.int .i64 0) := (blk_cell BK271.out 2).trans rfl
                            have hcz23_3 : w14.cell? ⟨gb271, 3, none⟩ = some (.int .i64 0) := (blk_cell BK271.out 3).trans rfl
                            have hfz23_0 := blk_frozen BK271.out 0
                            have hfz23_1 := blk_frozen BK271.out 1
                            have hfz23_2 := blk_frozen BK271.out 2
                            have hfz23_3 := blk_frozen BK271.out 3
                            go_wp2
                            repeat (go_quiet (fail); try go_wp2)
                            go_meet
                            case rel => exact ⟨_, (true), (by first | rfl | (simp; done) | (simp [*]; done)), H', ⟨by have := HJ2.out; have := HK2.out; first | omega | exact Nat.le_refl _⟩, ⟨by (with_reducible repeat (first | apply Kd.R_alloc | apply Kd.R_drewN | apply Kd.R_drew)); exact Kd.R_mono (Kd.R_far (p := ⟨gb271, 3, none⟩) (Kd.R_far (p := ⟨gb271, 2, none⟩) (Kd.R_far (p := ⟨gb271, 1, none⟩) (Kd.R_far (p := ⟨gb271, 0, none⟩) (Kd.R_mono HO_4.out (fun k_ hk => (⟨hk, hk.2⟩ : _ ∧ k_ ≠ gb271))) (fun _ hk => hk.2) (.int .i64 ((rd_T29 t265 x8_2).f0))) (fun _ hk => hk.2) (.string ((rd_T29 t265 x8_2).f1))) (fun _ hk => hk.2) (.int .i64 ((rd_T29 t265 x8_2).f2))) (fun _ hk => hk.2) (.int .i64 ((rd_T29 t265 x8_2).f3))) (fun _ hk => hk.1.2)⟩, ⟨by (with_reducible repeat (first | refine blk_drewN ?_ _ | refine blk_drew ?_ | refine blk_alloc ?_ _)); refine blk_put (cs := #[.int .i64 ((rd_T29 t265 x8_2).f0), .string ((rd_T29 t265 x8_2).f1), .int .i64 ((rd_T29 t265 x8_2).f2), .int .i64 0]) ?_ 3 _ rfl; (with_reducible repeat (first | refine blk_drewN ?_ _ | refine blk_drew ?_ | refine blk_alloc ?_ _)); refine blk_put (cs := #[.int .i64 ((rd_T29 t265 x8_2).f0), .string ((rd_T29 t265 x8_2).f1), .int .i64 0, .int .i64 0]) ?_ 2 _ rfl; (with_reducible repeat (first | refine blk_drewN ?_ _ | refine blk_drew ?_ | refine blk_alloc ?_ _)); refine blk_put (cs := #[.int .i64 ((rd_T29 t265 x8_2).f0), .string (⟨#[]⟩ : ByteArray), .int .i64 0, .int .i64 0]) ?_ 1 _ rfl; (with_reducible repeat (first | refine blk_drewN ?_ _ | refine blk_drew ?_ | refine blk_alloc ?_ _)); refine blk_put (cs := #[.int .i64 0, .string (⟨#[]⟩ : ByteArray), .int .i64 0, .int .i64 0]) ?_ 0 _ rfl; (with_reducible repeat (first | refine blk_drewN ?_ _ | refine blk_drew ?_ | refine blk_alloc ?_ _)); exact BK271.out⟩, ⟨by repeat (first | (with_reducible first | exact HB.out | apply below_alloc | apply pw_below_drewN | apply below_drew1 | refine below_set ?_ GE271.out) | exact HB.out)⟩⟩
                          · rw [if_neg c22] at H
                            have c22b0 : decide (4 ≤ ((rd_T29 t265 x8_2).f0)) = false := decide_eq_false c22
                            clear c22
                            by_cases c24 : 0 ≤ ((rd_T29 t265 x8_2).f3)
                            · rw [if_pos c24] at H
                              have c24b0 : decide (0 ≤ ((rd_T29 t265 x8_2).f3)) = true := decide_eq_true c24
                              clear c24
                              by_cases c25 : ((rd_T29 t265 x8_2).f3) < (a0.size : Int)
                              · rw [if_pos c25] at H
                                have c25b0 : decide (((rd_T29 t265 x8_2).f3) < (a0.size : Int)) = true := decide_eq_true c25
                                clear c25
                                have H' := Aside0.mk H
                                clear H
                                have hcz27_0 : w14.cell? ⟨gb271, 0, none⟩ = some (.int .i64 0) := (blk_cell BK271.out 0).trans rfl
                                have hcz27_1 : w14.cell? ⟨gb271, 1, none⟩ = some (.string (⟨#[]⟩ : ByteArray)) := (blk_cell BK271.out 1).trans rfl
                                have hcz27_2 : w14.cell? ⟨gb271, 2, none⟩ = some (.int .i64 0) := (blk_cell BK271.out 2).trans rfl
                                have hcz27_3 : w14.cell? ⟨gb271, 3, none⟩ = some (.int .i64 0) := (blk_cell BK271.out 3).trans rfl
                                have hfz27_0 := blk_frozen BK271.out 0
                                have hfz27_1 := blk_frozen BK271.out 1
                                have hfz27_2 := blk_frozen BK271.out 2
                                have hfz27_3 := blk_frozen BK271.out 3
                                have p26 : 0 ≤ (((rd_T29 t265 x8_2).f3) : Int) := of_decide_eq_true (by first | (with_reducible assumption) | assumption)
                                have q26 : ((rd_T29 t265 x8_2).f3) < (a0.size : Int) := of_decide_eq_true (by first | (with_reducible assumption) | assumption)
                                have hx26 := bt_at a0 ((rd_T29 t265 x8_2).f3)
                                replace p26 := eq_true p26
                                replace q26 := eq_true q26
                                go_wp2
                                repeat (go_quiet (fail); try go_wp2)
                                go_meet
                                case rel => exact ⟨_, (((((rd_T29 t265 x8_2).f0) == 2) != ((bt a0 ((rd_T29 t265 x8_2).f3)) == 34))), (by first | rfl | (simp; done) | (simp [*]; done)), H', ⟨by have := HJ2.out; have := HK2.out; first | omega | exact Nat.le_refl _⟩, ⟨by (with_reducible repeat (first | apply Kd.R_alloc | apply Kd.R_drewN | apply Kd.R_drew)); exact Kd.R_mono (Kd.R_far (p := ⟨gb271, 3, none⟩) (Kd.R_far (p := ⟨gb271, 2, none⟩) (Kd.R_far (p := ⟨gb271, 1, none⟩) (Kd.R_far (p := ⟨gb271, 0, none⟩) (Kd.R_mono HO_4.out (fun k_ hk => (⟨hk, hk.2⟩ : _ ∧ k_ ≠ gb271))) (fun _ hk => hk.2) (.int .i64 ((rd_T29 t265 x8_2).f0))) (fun _ hk => hk.2) (.string ((rd_T29 t265 x8_2).f1))) (fun _ hk => hk.2) (.int .i64 ((rd_T29 t265 x8_2).f2))) (fun _ hk => hk.2) (.int .i64 ((rd_T29 t265 x8_2).f3))) (fun _ hk => hk.1.2)⟩, ⟨by (with_reducible repeat (first | refine blk_drewN ?_ _ | refine blk_drew ?_ | refine blk_alloc ?_ _)); refine blk_put (cs := #[.int .i64 ((rd_T29 t265 x8_2).f0), .string ((rd_T29 t265 x8_2).f1), .int .i64 ((rd_T29 t265 x8_2).f2), .int .i64 0]) ?_ 3 _ rfl; (with_reducible repeat (first | refine blk_drewN ?_ _ | refine blk_drew ?_ | refine blk_alloc ?_ _)); refine blk_put (cs := #[.int .i64 ((rd_T29 t265 x8_2).f0), .string ((rd_T29 t265 x8_2).f1), .int .i64 0, .int .i64 0]) ?_ 2 _ rfl; (with_reducible repeat (first | refine blk_drewN ?_ _ | refine blk_drew ?_ | refine blk_alloc ?_ _)); refine blk_put (cs := #[.int .i64 ((rd_T29 t265 x8_2).f0), .string (⟨#[]⟩ : ByteArray), .int .i64 0, .int .i64 0]) ?_ 1 _ rfl; (with_reducible repeat (first | refine blk_drewN ?_ _ | refine blk_drew ?_ | refine blk_alloc ?_ _)); refine blk_put (cs := #[.int .i64 0, .string (⟨#[]⟩ : ByteArray), .int .i64 0, .int .i64 0]) ?_ 0 _ rfl; (with_reducible repeat (first | refine blk_drewN ?_ _ | refine blk_drew ?_ | refine blk_alloc ?_ _)); exact BK271.out⟩, ⟨by repeat (first | (with_reducible first | exact HB.out | apply below_alloc | apply pw_below_drewN | apply below_drew1 | refine below_set ?_ GE271.out) | exact HB.out)⟩⟩
                              · rw [if_neg c25] at H
                                exact absurd H (by simp)
                            · rw [if_neg c24] at H
                              exact absurd H (by simp)
                  case rest =>
                    clear HC12
                    try clear c1
                    try clear c2
                    try clear p2
                    try clear q2
                    try clear hx2
                    try clear c4
                    try clear c5
                    try clear c6
                    try clear c8
                    try clear c8b0
                    try clear c8b1
                    try clear c10
                    try clear c10b0
                    try clear c11
                    try clear c11b0
                    try clear c16
                    try clear c16b0
                    try clear c18
                    try clear c18b0
                    try clear c20
                    try clear c20b0
                    try clear c22
                    try clear c22b0
                    try clear c24
                    try clear c24b0
                    try clear c25
                    try clear c25b0
                    try clear p26
                    try clear q26
                    try clear hx26
                    try clear p27
                    try clear q27
                    try clear hx27
                    try clear hcz15_0
                    try clear hcz15_1
                    try clear hcz15_2
                    try clear hcz15_3
                    try clear hcz17_0
                    try clear hcz17_1
                    try clear hcz17_2
                    try clear hcz17_3
                    try clear hcz19_0
                    try clear hcz19_1
                    try clear hcz19_2
                    try clear hcz19_3
                    try clear hcz21_0
                    try clear hcz21_1
                    try clear hcz21_2
                    try clear hcz21_3
                    try clear hcz23_0
                    try clear hcz23_1
                    try clear hcz23_2
                    try clear hcz23_3
                    try clear hcz27_0
                    try clear hcz27_1
                    try clear hcz27_2
                    try clear hcz27_3
                    try clear hfz15_0
                    try clear hfz15_1
                    try clear hfz15_2
                    try clear hfz15_3
                    try clear hfz17_0
                    try clear hfz17_1
                    try clear hfz17_2
                    try clear hfz17_3
                    try clear hfz19_0
                    try clear hfz19_1
                    try clear hfz19_2
                    try clear hfz19_3
                    try clear hfz21_0
                    try clear hfz21_1
                    try clear hfz21_2
                    try clear hfz21_3
                    try clear hfz23_0
                    try clear hfz23_1
                    try clear hfz23_2
                    try clear hfz23_3
                    try clear hfz27_0
                    try clear hfz27_1
                    try clear hfz27_2
                    try clear hfz27_3
                    try clear hx270_0
                    try clear hx270_1
                    try clear hx270_2
                    try clear hx270_3
                    try clear p2
                    try clear p26
                    try clear p270
                    try clear q26
                    try clear q270
                    obtain ⟨kq, x89_11, rfl, HA, HJ11, HO_4, BK271, HB⟩ := hcut
                    cases kq with
                    | zero => exact absurd HA.out (by simp [trufflelaw06_TokenPlaces.j2])
                    | succ kj11 =>
                      have H := HA.out
                      clear HA
                      simp only [trufflelaw06_TokenPlaces.j2] at H
                      by_cases c28 : x89_11 = true
                      · subst c28
                        have H1 : (some false) = some r := by rw [if_pos rfl] at H; exact H
                        clear H
                        have H := H1
                        clear H1
                        obtain rfl := Option.some.inj H
                        go_wp2
                        repeat (go_quiet (fail); try go_wp2)
                        go_ret
                        exact ⟨by first | rfl | (simp [errW_none, errW_some] <;> rfl) | (simp [*, errW_none, errW_some] <;> rfl), by repeat (first | (with_reducible first | exact HB.out | apply below_alloc | apply pw_below_drewN | apply below_drew1 | refine below_set ?_ GE271.out) | exact HB.out)⟩
                      · replace c28 := Bool.eq_false_iff.mpr c28
                        subst c28
                        have H1 : (if ((rd_T29 t265 x8_2).f0) = 2 then (trufflelaw06_TokenPlaces.l0 kj11 a0 t265 t266 ((rd_T29 t265 x8_2).f3) (wrap64 (x8_2 + 1))) else (if ((rd_T29 t265 x8_2).f1).toList = ([] : List UInt8) then (some false) else (if (wrap64 (((rd_T29 t265 x8_2).f3) + (((rd_T29 t265 x8_2).f1).size : Int))) > (a0.size : Int) then (some false) else (if 0 ≤ ((rd_T29 t265 x8_2).f3) then (if ((rd_T29 t265 x8_2).f3) ≤ (wrap64 (((rd_T29 t265 x8_2).f3) + (((rd_T29 t265 x8_2).f1).size : Int))) then (if (wrap64 (((rd_T29 t265 x8_2).f3) + (((rd_T29 t265 x8_2).f1).size : Int))) ≤ (a0.size : Int) then (if (a0.extract (((rd_T29 t265 x8_2).f3) : Int).toNat ((wrap64 (((rd_T29 t265 x8_2).f3) + (((rd_T29 t265 x8_2).f1).size : Int))) : Int).toNat).toList = ((rd_T29 t265 x8_2).f1).toList then (trufflelaw06_TokenPlaces.l0 kj11 a0 t265 t266 ((rd_T29 t265 x8_2).f3) (wrap64 (x8_2 + 1))) else (some false)) else (none)) else (none)) else (none))))) = some r := by rw [if_neg (show ¬ (false = true) by decide)] at H; exact H
                        clear H
                        have H := H1
                        clear H1
                        by_cases c29 : ((rd_T29 t265 x8_2).f0) = 2
                        · rw [if_pos c29] at H
                          have c29b0 : (((rd_T29 t265 x8_2).f0) == 2) = true := beq_iff_eq.mpr c29
                          have c29b1 : (((rd_T29 t265 x8_2).f0) != 2) = false := bne_eq_false_iff_eq.mpr c29
                          clear c29
                          have H' := Aside0.mk H
                          clear H
                          have hcz30_0 : wc.cell? ⟨gb271, 0, none⟩ = some (.int .i64 ((rd_T29 t265 x8_2).f0)) := (blk_cell BK271.out 0).trans rfl
                          have hcz30_1 : wc.cell? ⟨gb271, 1, none⟩ = some (.string ((rd_T29 t265 x8_2).f1)) := (blk_cell BK271.out 1).trans rfl
                          have hcz30_2 : wc.cell? ⟨gb271, 2, none⟩ = some (.int .i64 ((rd_T29 t265 x8_2).f2)) := (blk_cell BK271.out 2).trans rfl
                          have hcz30_3 : wc.cell? ⟨gb271, 3, none⟩ = some (.int .i64 ((rd_T29 t265 x8_2).f3)) := (blk_cell BK271.out 3).trans rfl
                          have hfz30_0 := blk_frozen BK271.out 0
                          have hfz30_1 := blk_frozen BK271.out 1
                          have hfz30_2 := blk_frozen BK271.out 2
                          have hfz30_3 := blk_frozen BK271.out 3
                          go_wp2
                          repeat (go_quiet (fail); try go_wp2)
                          go_roundg kj11
                          case measure => have := HJ2.out; have := HK2.out; have := HJ11.out; omega
                          case rel => exact ⟨(((rd_T29 t265 x8_2).f3)), (wrap64 (x8_2 + 1)), (by first | rfl | (simp; done) | (simp [*]; done)), (by first | rfl | (simp; done) | (simp [*]; done)), H', ⟨by have := HJ2.out; have := HK2.out; have := HJ11.out; omega⟩, ⟨by (with_reducible repeat (first | apply Kd.R_alloc | apply Kd.R_drewN | apply Kd.R_drew)); exact Kd.R_mono HO_4.out (fun _ hk => trivial)⟩, ⟨by repeat (first | (with_reducible first | exact HB.out | apply below_alloc | apply pw_below_drewN | apply below_drew1 | refine below_set ?_ GE271.out) | exact HB.out)⟩⟩
                        · rw [if_neg c29] at H
                          have c29b0 : (((rd_T29 t265 x8_2).f0) == 2) = false := beq_eq_false_iff_ne.mpr c29
                          have c29b1 : (((rd_T29 t265 x8_2).f0) != 2) = true := bne_iff_ne.mpr c29
                          by_cases c31 : ((rd_T29 t265 x8_2).f1).toList = ([] : List UInt8)
                          · rw [if_pos c31] at H
                            have c31b0 : (((rd_T29 t265 x8_2).f1).toList == ([] : List UInt8)) = true := beq_iff_eq.mpr c31
                            have c31b1 : (((rd_T29 t265 x8_2).f1).toList != ([] : List UInt8)) = false := bne_eq_false_iff_eq.mpr c31
                            clear c31
                            obtain rfl := Option.some.inj H
                            have hcz32_0 : wc.cell? ⟨gb271, 0, none⟩ = some (.int .i64 ((rd_T29 t265 x8_2).f0)) := (blk_cell BK271.out 0).trans rfl
                            have hcz32_1 : wc.cell? ⟨gb271, 1, none⟩ = some (.string ((rd_T29 t265 x8_2).f1)) := (blk_cell BK271.out 1).trans rfl
                            have hcz32_2 : wc.cell? ⟨gb271, 2, none⟩ = some (.int .i64 ((rd_T29 t265 x8_2).f2)) := (blk_cell BK271.out 2).trans rfl
                            have hcz32_3 : wc.cell? ⟨gb271, 3, none⟩ = some (.int .i64 ((rd_T29 t265 x8_2).f3)) := (blk_cell BK271.out 3).trans rfl
                            have hfz32_0 := blk_frozen BK271.out 0
                            have hfz32_1 := blk_frozen BK271.out 1
                            have hfz32_2 := blk_frozen BK271.out 2
                            have hfz32_3 := blk_frozen BK271.out 3
                            go_wp2
                            repeat (go_quiet (fail); try go_wp2)
                            go_ret
                            exact ⟨by first | rfl | (simp [errW_none, errW_some] <;> rfl) | (simp [*, errW_none, errW_some] <;> rfl), by repeat (first | (with_reducible first | exact HB.out | apply below_alloc | apply pw_below_drewN | apply below_drew1 | refine below_set ?_ GE271.out) | exact HB.out)⟩
                          · rw [if_neg c31] at H
                            have c31b0 : (((rd_T29 t265 x8_2).f1).toList == ([] : List UInt8)) = false := beq_eq_false_iff_ne.mpr c31
                            have c31b1 : (((rd_T29 t265 x8_2).f1).toList != ([] : List UInt8)) = true := bne_iff_ne.mpr c31
                            by_cases c33 : (wrap64 (((rd_T29 t265 x8_2).f3) + (((rd_T29 t265 x8_2).f1).size : Int))) > (a0.size : Int)
                            · rw [if_pos c33] at H
                              have c33b0 : decide ((a0.size : Int) < (wrap64 (((rd_T29 t265 x8_2).f3) + (((rd_T29 t265 x8_2).f1).size : Int)))) = true := decide_eq_true c33
                              clear c33
                              obtain rfl := Option.some.inj H
                              have hcz34_0 : wc.cell? ⟨gb271, 0, none⟩ = some (.int .i64 ((rd_T29 t265 x8_2).f0)) := (blk_cell BK271.out 0).trans rfl
                              have hcz34_1 : wc.cell? ⟨gb271, 1, none⟩ = some (.string ((rd_T29 t265 x8_2).f1)) := (blk_cell BK271.out 1).trans rfl
                              have hcz34_2 : wc.cell? ⟨gb271, 2, none⟩ = some (.int .i64 ((rd_T29 t265 x8_2).f2)) := (blk_cell BK271.out 2).trans rfl
                              have hcz34_3 : wc.cell? ⟨gb271, 3, none⟩ = some (.int .i64 ((rd_T29 t265 x8_2).f3)) := (blk_cell BK271.out 3).trans rfl
                              have hfz34_0 := blk_frozen BK271.out 0
                              have hfz34_1 := blk_frozen BK271.out 1
                              have hfz34_2 := blk_frozen BK271.out 2
                              have hfz34_3 := blk_frozen BK271.out 3
                              go_wp2
                              repeat (go_quiet (fail); try go_wp2)
                              go_ret
                              exact ⟨by first | rfl | (simp [errW_none, errW_some] <;> rfl) | (simp [*, errW_none, errW_some] <;> rfl), by repeat (first | (with_reducible first | exact HB.out | apply below_alloc | apply pw_below_drewN | apply below_drew1 | refine below_set ?_ GE271.out) | exact HB.out)⟩
                            · rw [if_neg c33] at H
                              have c33b0 : decide ((a0.size : Int) < (wrap64 (((rd_T29 t265 x8_2).f3) + (((rd_T29 t265 x8_2).f1).size : Int)))) = false := decide_eq_false c33
                              clear c33
                              by_cases c35 : 0 ≤ ((rd_T29 t265 x8_2).f3)
                              · rw [if_pos c35] at H
                                have c35b0 := eq_true c35
                                have c35b1 : decide (0 ≤ ((rd_T29 t265 x8_2).f3)) = true := decide_eq_true c35
                                clear c35
                                by_cases c36 : ((rd_T29 t265 x8_2).f3) ≤ (wrap64 (((rd_T29 t265 x8_2).f3) + (((rd_T29 t265 x8_2).f1).size : Int)))
                                · rw [if_pos c36] at H
                                  have c36b0 := eq_true c36
                                  have c36b1 : decide (((rd_T29 t265 x8_2).f3) ≤ (wrap64 (((rd_T29 t265 x8_2).f3) + (((rd_T29 t265 x8_2).f1).size : Int)))) = true := decide_eq_true c36
                                  by_cases c37 : (wrap64 (((rd_T29 t265 x8_2).f3) + (((rd_T29 t265 x8_2).f1).size : Int))) ≤ (a0.size : Int)
                                  · rw [if_pos c37] at H
                                    have c37b0 := eq_true c37
                                    have c37b1 : decide ((wrap64 (((rd_T29 t265 x8_2).f3) + (((rd_T29 t265 x8_2).f1).size : Int))) ≤ (a0.size : Int)) = true := decide_eq_true c37
                                    by_cases c38 : (a0.extract (((rd_T29 t265 x8_2).f3) : Int).toNat ((wrap64 (((rd_T29 t265 x8_2).f3) + (((rd_T29 t265 x8_2).f1).size : Int))) : Int).toNat).toList = ((rd_T29 t265 x8_2).f1).toList
                                    · rw [if_pos c38] at H
                                      have c38b0 : ((a0.extract (((rd_T29 t265 x8_2).f3) : Int).toNat ((wrap64 (((rd_T29 t265 x8_2).f3) + (((rd_T29 t265 x8_2).f1).size : Int))) : Int).toNat).toList == ((rd_T29 t265 x8_2).f1).toList) = true := beq_iff_eq.mpr c38
                                      have c38b1 : ((a0.extract (((rd_T29 t265 x8_2).f3) : Int).toNat ((wrap64 (((rd_T29 t265 x8_2).f3) + (((rd_T29 t265 x8_2).f1).size : Int))) : Int).toNat).toList != ((rd_T29 t265 x8_2).f1).toList) = false := bne_eq_false_iff_eq.mpr c38
                                      clear c38
                                      have H' := Aside0.mk H
                                      clear H
                                      have hcz39_0 : wc.cell? ⟨gb271, 0, none⟩ = some (.int .i64 ((rd_T29 t265 x8_2).f0)) := (blk_cell BK271.out 0).trans rfl
                                      have hcz39_1 : wc.cell? ⟨gb271, 1, none⟩ = some (.string ((rd_T29 t265 x8_2).f1)) := (blk_cell BK271.out 1).trans rfl
                                      have hcz39_2 : wc.cell? ⟨gb271, 2, none⟩ = some (.int .i64 ((rd_T29 t265 x8_2).f2)) := (blk_cell BK271.out 2).trans rfl
                                      have hcz39_3 : wc.cell? ⟨gb271, 3, none⟩ = some (.int .i64 ((rd_T29 t265 x8_2).f3)) := (blk_cell BK271.out 3).trans rfl
                                      have hfz39_0 := blk_frozen BK271.out 0
                                      have hfz39_1 := blk_frozen BK271.out 1
                                      have hfz39_2 := blk_frozen BK271.out 2
                                      have hfz39_3 := blk_frozen BK271.out 3
                                      go_wp2
                                      repeat (go_quiet (fail); try go_wp2)
                                      go_roundg kj11
                                      case measure => have := HJ2.out; have := HK2.out; have := HJ11.out; omega
                                      case rel => exact ⟨(((rd_T29 t265 x8_2).f3)), (wrap64 (x8_2 + 1)), (by first | rfl | (simp; done) | (simp [*]; done)), (by first | rfl | (simp; done) | (simp [*]; done)), H', ⟨by have := HJ2.out; have := HK2.out; have := HJ11.out; omega⟩, ⟨by (with_reducible repeat (first | apply Kd.R_alloc | apply Kd.R_drewN | apply Kd.R_drew)); exact Kd.R_mono HO_4.out (fun _ hk => trivial)⟩, ⟨by repeat (first | (with_reducible first | exact HB.out | apply below_alloc | apply pw_below_drewN | apply below_drew1 | refine below_set ?_ GE271.out) | exact HB.out)⟩⟩
                                    · rw [if_neg c38] at H
                                      have c38b0 : ((a0.extract (((rd_T29 t265 x8_2).f3) : Int).toNat ((wrap64 (((rd_T29 t265 x8_2).f3) + (((rd_T29 t265 x8_2).f1).size : Int))) : Int).toNat).toList == ((rd_T29 t265 x8_2).f1).toList) = false := beq_eq_false_iff_ne.mpr c38
                                      have c38b1 : ((a0.extract (((rd_T29 t265 x8_2).f3) : Int).toNat ((wrap64 (((rd_T29 t265 x8_2).f3) + (((rd_T29 t265 x8_2).f1).size : Int))) : Int).toNat).toList != ((rd_T29 t265 x8_2).f1).toList) = true := bne_iff_ne.mpr c38
                                      obtain rfl := Option.some.inj H
                                      have hcz40_0 : wc.cell? ⟨gb271, 0, none⟩ = some (.int .i64 ((rd_T29 t265 x8_2).f0)) := (blk_cell BK271.out 0).trans rfl
                                      have hcz40_1 : wc.cell? ⟨gb271, 1, none⟩ = some (.string ((rd_T29 t265 x8_2).f1)) := (blk_cell BK271.out 1).trans rfl
                                      have hcz40_2 : wc.cell? ⟨gb271, 2, none⟩ = some (.int .i64 ((rd_T29 t265 x8_2).f2)) := (blk_cell BK271.out 2).trans rfl
                                      have hcz40_3 : wc.cell? ⟨gb271, 3, none⟩ = some (.int .i64 ((rd_T29 t265 x8_2).f3)) := (blk_cell BK271.out 3).trans rfl
                                      have hfz40_0 := blk_frozen BK271.out 0
                                      have hfz40_1 := blk_frozen BK271.out 1
                                      have hfz40_2 := blk_frozen BK271.out 2
                                      have hfz40_3 := blk_frozen BK271.out 3
                                      go_wp2
                                      repeat (go_quiet (fail); try go_wp2)
                                      go_ret
                                      exact ⟨by first | rfl | (simp [errW_none, errW_some] <;> rfl) | (simp [*, errW_none, errW_some] <;> rfl), by repeat (first | (with_reducible first | exact HB.out | apply below_alloc | apply pw_below_drewN | apply below_drew1 | refine below_set ?_ GE271.out) | exact HB.out)⟩
                                  · rw [if_neg c37] at H
                                    exact absurd H (by simp)
                                · rw [if_neg c36] at H
                                  exact absurd H (by simp)
                              · rw [if_neg c35] at H
                                exact absurd H (by simp)
                · rw [if_neg c11] at H
                  exact absurd H (by simp)
              · rw [if_neg c10] at H
                have c10b0 : decide (x8_2 < (t265.length : Int)) = false := decide_eq_false c10
                clear c10
                by_cases c41 : t266 = (a0.size : Int)
                · rw [if_pos c41] at H
                  have c41b0 : (t266 == (a0.size : Int)) = true := beq_iff_eq.mpr c41
                  have c41b1 : (t266 != (a0.size : Int)) = false := bne_eq_false_iff_eq.mpr c41
                  clear c41
                  obtain rfl := Option.some.inj H
                  obtain ⟨Ao42, co42, eo42⟩ := Kd.R_slice HO_4.out
                  subst eo42
                  go_wp2
                  repeat (go_quiet (fail); try go_wp2)
                  go_ret
                  exact ⟨by first | rfl | (simp [errW_none, errW_some] <;> rfl) | (simp [*, errW_none, errW_some] <;> rfl), by repeat (first | (with_reducible first | exact HB.out | apply below_alloc | apply pw_below_drewN | apply below_drew1) | exact HB.out)⟩
                · rw [if_neg c41] at H
                  have c41b0 : (t266 == (a0.size : Int)) = false := beq_eq_false_iff_ne.mpr c41
                  have c41b1 : (t266 != (a0.size : Int)) = true := bne_iff_ne.mpr c41
                  obtain rfl := Option.some.inj H
                  obtain ⟨Ao43, co43, eo43⟩ := Kd.R_slice HO_4.out
                  subst eo43
                  go_wp2
                  repeat (go_quiet (fail); try go_wp2)
                  go_ret
                  exact ⟨by first | rfl | (simp [errW_none, errW_some] <;> rfl) | (simp [*, errW_none, errW_some] <;> rfl), by repeat (first | (with_reducible first | exact HB.out | apply below_alloc | apply pw_below_drewN | apply below_drew1) | exact HB.out)⟩
        · rw [if_neg c8] at H
          have c8b0 : (t267 == 0) = false := beq_eq_false_iff_ne.mpr c8
          have c8b1 : (t267 != 0) = true := bne_iff_ne.mpr c8
          by_cases c44 : (t265.length : Int) = 0
          · rw [if_pos c44] at H
            have c44b0 : ((t265.length : Int) == 0) = true := beq_iff_eq.mpr c44
            have c44b1 : ((t265.length : Int) != 0) = false := bne_eq_false_iff_eq.mpr c44
            clear c44
            by_cases c45 : t266 ≥ 0
            · rw [if_pos c45] at H
              have c45b0 : decide (0 ≤ t266) = true := decide_eq_true c45
              clear c45
              by_cases c46 : t266 < (a0.size : Int)
              · rw [if_pos c46] at H
                have c46b0 : decide (t266 < (a0.size : Int)) = true := decide_eq_true c46
                clear c46
                by_cases c47 : t267 = 4
                · rw [if_pos c47] at H
                  have c47b0 : (t267 == 4) = true := beq_iff_eq.mpr c47
                  have c47b1 : (t267 != 4) = false := bne_eq_false_iff_eq.mpr c47
                  clear c47
                  obtain rfl := Option.some.inj H
                  go_wp2_with (first | (go_at_call 16; (with_reducible refine (token_All.calls a0 t265 t266 t267 _ ?side1 A7.out).mono ?_); (case side1 => exact hG.below (by repeat (first | (with_reducible first | exact HB.out | apply below_alloc | apply pw_below_drewN | apply below_drew1) | exact HB.out))); rintro e w48 ⟨v268, rfl, ho0, hb⟩; have n0_ := Aside0.mk (Kd.R_lower ho0 (below_size (by repeat (first | (with_reducible first | exact HB.out | apply below_alloc | apply pw_below_drewN | apply below_drew1) | exact HB.out)))); have n1_ := Aside0.mk (below_step (by repeat (first | (with_reducible first | exact HB.out | apply below_alloc | apply pw_below_drewN | apply below_drew1) | exact HB.out)) hb); clear HB; have HO269 := n0_; have HB := n1_; clear n0_ n1_; (try clear hb); (try clear hb2); (try clear hk); (try clear hi); (try clear ho0); obtain ⟨Ao49, co49, eo49⟩ := Kd.R_slice HO269.out; subst eo49))
                  repeat (go_quiet (first | (go_at_call 16; (with_reducible refine (token_All.calls a0 t265 t266 t267 _ ?side1 A7.out).mono ?_); (case side1 => exact hG.below (by repeat (first | (with_reducible first | exact HB.out | apply below_alloc | apply pw_below_drewN | apply below_drew1) | exact HB.out))); rintro e w48 ⟨v268, rfl, ho0, hb⟩; have n0_ := Aside0.mk (Kd.R_lower ho0 (below_size (by repeat (first | (with_reducible first | exact HB.out | apply below_alloc | apply pw_below_drewN | apply below_drew1) | exact HB.out)))); have n1_ := Aside0.mk (below_step (by repeat (first | (with_reducible first | exact HB.out | apply below_alloc | apply pw_below_drewN | apply below_drew1) | exact HB.out)) hb); clear HB; have HO269 := n0_; have HB := n1_; clear n0_ n1_; (try clear hb); (try clear hb2); (try clear hk); (try clear hi); (try clear ho0); obtain ⟨Ao49, co49, eo49⟩ := Kd.R_slice HO269.out; subst eo49)); try go_wp2_with (first | (go_at_call 16; (with_reducible refine (token_All.calls a0 t265 t266 t267 _ ?side1 A7.out).mono ?_); (case side1 => exact hG.below (by repeat (first | (with_reducible first | exact HB.out | apply below_alloc | apply pw_below_drewN | apply below_drew1) | exact HB.out))); rintro e w48 ⟨v268, rfl, ho0, hb⟩; have n0_ := Aside0.mk (Kd.R_lower ho0 (below_size (by repeat (first | (with_reducible first | exact HB.out | apply below_alloc | apply pw_below_drewN | apply below_drew1) | exact HB.out)))); have n1_ := Aside0.mk (below_step (by repeat (first | (with_reducible first | exact HB.out | apply below_alloc | apply pw_below_drewN | apply below_drew1) | exact HB.out)) hb); clear HB; have HO269 := n0_; have HB := n1_; clear n0_ n1_; (try clear hb); (try clear hb2); (try clear hk); (try clear hi); (try clear ho0); obtain ⟨Ao49, co49, eo49⟩ := Kd.R_slice HO269.out; subst eo49)))
                  go_ret
                  exact ⟨by first | rfl | (simp [errW_none, errW_some] <;> rfl) | (simp [*, errW_none, errW_some] <;> rfl), by repeat (first | (with_reducible first | exact HB.out | apply below_alloc | apply pw_below_drewN | apply below_drew1) | exact HB.out)⟩
                · rw [if_neg c47] at H
                  have c47b0 : (t267 == 4) = false := beq_eq_false_iff_ne.mpr c47
                  have c47b1 : (t267 != 4) = true := bne_iff_ne.mpr c47
                  obtain rfl := Option.some.inj H
                  go_wp2_with (first | (go_at_call 16; (with_reducible refine (token_All.calls a0 t265 t266 t267 _ ?side1 A7.out).mono ?_); (case side1 => exact hG.below (by repeat (first | (with_reducible first | exact HB.out | apply below_alloc | apply pw_below_drewN | apply below_drew1) | exact HB.out))); rintro e w50 ⟨v268, rfl, ho0, hb⟩; have n0_ := Aside0.mk (Kd.R_lower ho0 (below_size (by repeat (first | (with_reducible first | exact HB.out | apply below_alloc | apply pw_below_drewN | apply below_drew1) | exact HB.out)))); have n1_ := Aside0.mk (below_step (by repeat (first | (with_reducible first | exact HB.out | apply below_alloc | apply pw_below_drewN | apply below_drew1) | exact HB.out)) hb); clear HB; have HO269 := n0_; have HB := n1_; clear n0_ n1_; (try clear hb); (try clear hb2); (try clear hk); (try clear hi); (try clear ho0); obtain ⟨Ao51, co51, eo51⟩ := Kd.R_slice HO269.out; subst eo51))
                  repeat (go_quiet (first | (go_at_call 16; (with_reducible refine (token_All.calls a0 t265 t266 t267 _ ?side1 A7.out).mono ?_); (case side1 => exact hG.below (by repeat (first | (with_reducible first | exact HB.out | apply below_alloc | apply pw_below_drewN | apply below_drew1) | exact HB.out))); rintro e w50 ⟨v268, rfl, ho0, hb⟩; have n0_ := Aside0.mk (Kd.R_lower ho0 (below_size (by repeat (first | (with_reducible first | exact HB.out | apply below_alloc | apply pw_below_drewN | apply below_drew1) | exact HB.out)))); have n1_ := Aside0.mk (below_step (by repeat (first | (with_reducible first | exact HB.out | apply below_alloc | apply pw_below_drewN | apply below_drew1) | exact HB.out)) hb); clear HB; have HO269 := n0_; have HB := n1_; clear n0_ n1_; (try clear hb); (try clear hb2); (try clear hk); (try clear hi); (try clear ho0); obtain ⟨Ao51, co51, eo51⟩ := Kd.R_slice HO269.out; subst eo51)); try go_wp2_with (first | (go_at_call 16; (with_reducible refine (token_All.calls a0 t265 t266 t267 _ ?side1 A7.out).mono ?_); (case side1 => exact hG.below (by repeat (first | (with_reducible first | exact HB.out | apply below_alloc | apply pw_below_drewN | apply below_drew1) | exact HB.out))); rintro e w50 ⟨v268, rfl, ho0, hb⟩; have n0_ := Aside0.mk (Kd.R_lower ho0 (below_size (by repeat (first | (with_reducible first | exact HB.out | apply below_alloc | apply pw_below_drewN | apply below_drew1) | exact HB.out)))); have n1_ := Aside0.mk (below_step (by repeat (first | (with_reducible first | exact HB.out | apply below_alloc | apply pw_below_drewN | apply below_drew1) | exact HB.out)) hb); clear HB; have HO269 := n0_; have HB := n1_; clear n0_ n1_; (try clear hb); (try clear hb2); (try clear hk); (try clear hi); (try clear ho0); obtain ⟨Ao51, co51, eo51⟩ := Kd.R_slice HO269.out; subst eo51)))
                  go_ret
                  exact ⟨by first | rfl | (simp [errW_none, errW_some] <;> rfl) | (simp [*, errW_none, errW_some] <;> rfl), by repeat (first | (with_reducible first | exact HB.out | apply below_alloc | apply pw_below_drewN | apply below_drew1) | exact HB.out)⟩
              · rw [if_neg c46] at H
                have c46b0 : decide (t266 < (a0.size : Int)) = false := decide_eq_false c46
                clear c46
                obtain rfl := Option.some.inj H
                go_wp2_with (first | (go_at_call 16; (with_reducible refine (token_All.calls a0 t265 t266 t267 _ ?side1 A7.out).mono ?_); (case side1 => exact hG.below (by repeat (first | (with_reducible first | exact HB.out | apply below_alloc | apply pw_below_drewN | apply below_drew1) | exact HB.out))); rintro e w52 ⟨v268, rfl, ho0, hb⟩; have n0_ := Aside0.mk (Kd.R_lower ho0 (below_size (by repeat (first | (with_reducible first | exact HB.out | apply below_alloc | apply pw_below_drewN | apply below_drew1) | exact HB.out)))); have n1_ := Aside0.mk (below_step (by repeat (first | (with_reducible first | exact HB.out | apply below_alloc | apply pw_below_drewN | apply below_drew1) | exact HB.out)) hb); clear HB; have HO269 := n0_; have HB := n1_; clear n0_ n1_; (try clear hb); (try clear hb2); (try clear hk); (try clear hi); (try clear ho0); obtain ⟨Ao53, co53, eo53⟩ := Kd.R_slice HO269.out; subst eo53))
                repeat (go_quiet (first | (go_at_call 16; (with_reducible refine (token_All.calls a0 t265 t266 t267 _ ?side1 A7.out).mono ?_); (case side1 => exact hG.below (by repeat (first | (with_reducible first | exact HB.out | apply below_alloc | apply pw_below_drewN | apply below_drew1) | exact HB.out))); rintro e w52 ⟨v268, rfl, ho0, hb⟩; have n0_ := Aside0.mk (Kd.R_lower ho0 (below_size (by repeat (first | (with_reducible first | exact HB.out | apply below_alloc | apply pw_below_drewN | apply below_drew1) | exact HB.out)))); have n1_ := Aside0.mk (below_step (by repeat (first | (with_reducible first | exact HB.out | apply below_alloc | apply pw_below_drewN | apply below_drew1) | exact HB.out)) hb); clear HB; have HO269 := n0_; have HB := n1_; clear n0_ n1_; (try clear hb); (try clear hb2); (try clear hk); (try clear hi); (try clear ho0); obtain ⟨Ao53, co53, eo53⟩ := Kd.R_slice HO269.out; subst eo53)); try go_wp2_with (first | (go_at_call 16; (with_reducible refine (token_All.calls a0 t265 t266 t267 _ ?side1 A7.out).mono ?_); (case side1 => exact hG.below (by repeat (first | (with_reducible first | exact HB.out | apply below_alloc | apply pw_below_drewN | apply below_drew1) | exact HB.out))); rintro e w52 ⟨v268, rfl, ho0, hb⟩; have n0_ := Aside0.mk (Kd.R_lower ho0 (below_size (by repeat (first | (with_reducible first | exact HB.out | apply below_alloc | apply pw_below_drewN | apply below_drew1) | exact HB.out)))); have n1_ := Aside0.mk (below_step (by repeat (first | (with_reducible first | exact HB.out | apply below_alloc | apply pw_below_drewN | apply below_drew1) | exact HB.out)) hb); clear HB; have HO269 := n0_; have HB := n1_; clear n0_ n1_; (try clear hb); (try clear hb2); (try clear hk); (try clear hi); (try clear ho0); obtain ⟨Ao53, co53, eo53⟩ := Kd.R_slice HO269.out; subst eo53)))
                go_ret
                exact ⟨by first | rfl | (simp [errW_none, errW_some] <;> rfl) | (simp [*, errW_none, errW_some] <;> rfl), by repeat (first | (with_reducible first | exact HB.out | apply below_alloc | apply pw_below_drewN | apply below_drew1) | exact HB.out)⟩
            · rw [if_neg c45] at H
              have c45b0 : decide (0 ≤ t266) = false := decide_eq_false c45
              clear c45
              obtain rfl := Option.some.inj H
              go_wp2_with (first | (go_at_call 16; (with_reducible refine (token_All.calls a0 t265 t266 t267 _ ?side1 A7.out).mono ?_); (case side1 => exact hG.below (by repeat (first | (with_reducible first | exact HB.out | apply below_alloc | apply pw_below_drewN | apply below_drew1) | exact HB.out))); rintro e w54 ⟨v268, rfl, ho0, hb⟩; have n0_ := Aside0.mk (Kd.R_lower ho0 (below_size (by repeat (first | (with_reducible first | exact HB.out | apply below_alloc | apply pw_below_drewN | apply below_drew1) | exact HB.out)))); have n1_ := Aside0.mk (below_step (by repeat (first | (with_reducible first | exact HB.out | apply below_alloc | apply pw_below_drewN | apply below_drew1) | exact HB.out)) hb); clear HB; have HO269 := n0_; have HB := n1_; clear n0_ n1_; (try clear hb); (try clear hb2); (try clear hk); (try clear hi); (try clear ho0); obtain ⟨Ao55, co55, eo55⟩ := Kd.R_slice HO269.out; subst eo55))
              repeat (go_quiet (first | (go_at_call 16; (with_reducible refine (token_All.calls a0 t265 t266 t267 _ ?side1 A7.out).mono ?_); (case side1 => exact hG.below (by repeat (first | (with_reducible first | exact HB.out | apply below_alloc | apply pw_below_drewN | apply below_drew1) | exact HB.out))); rintro e w54 ⟨v268, rfl, ho0, hb⟩; have n0_ := Aside0.mk (Kd.R_lower ho0 (below_size (by repeat (first | (with_reducible first | exact HB.out | apply below_alloc | apply pw_below_drewN | apply below_drew1) | exact HB.out)))); have n1_ := Aside0.mk (below_step (by repeat (first | (with_reducible first | exact HB.out | apply below_alloc | apply pw_below_drewN | apply below_drew1) | exact HB.out)) hb); clear HB; have HO269 := n0_; have HB := n1_; clear n0_ n1_; (try clear hb); (try clear hb2); (try clear hk); (try clear hi); (try clear ho0); obtain ⟨Ao55, co55, eo55⟩ := Kd.R_slice HO269.out; subst eo55)); try go_wp2_with (first | (go_at_call 16; (with_reducible refine (token_All.calls a0 t265 t266 t267 _ ?side1 A7.out).mono ?_); (case side1 => exact hG.below (by repeat (first | (with_reducible first | exact HB.out | apply below_alloc | apply pw_below_drewN | apply below_drew1) | exact HB.out))); rintro e w54 ⟨v268, rfl, ho0, hb⟩; have n0_ := Aside0.mk (Kd.R_lower ho0 (below_size (by repeat (first | (with_reducible first | exact HB.out | apply below_alloc | apply pw_below_drewN | apply below_drew1) | exact HB.out)))); have n1_ := Aside0.mk (below_step (by repeat (first | (with_reducible first | exact HB.out | apply below_alloc | apply pw_below_drewN | apply below_drew1) | exact HB.out)) hb); clear HB; have HO269 := n0_; have HB := n1_; clear n0_ n1_; (try clear hb); (try clear hb2); (try clear hk); (try clear hi); (try clear ho0); obtain ⟨Ao55, co55, eo55⟩ := Kd.R_slice HO269.out; subst eo55)))
              go_ret
              exact ⟨by first | rfl | (simp [errW_none, errW_some] <;> rfl) | (simp [*, errW_none, errW_some] <;> rfl), by repeat (first | (with_reducible first | exact HB.out | apply below_alloc | apply pw_below_drewN | apply below_drew1) | exact HB.out)⟩
          · rw [if_neg c44] at H
            have c44b0 : ((t265.length : Int) == 0) = false := beq_eq_false_iff_ne.mpr c44
            have c44b1 : ((t265.length : Int) != 0) = true := bne_iff_ne.mpr c44
            have c44b2 : ¬ (t265 = []) := fun h_ => c44 (by rw [h_]; rfl)
            obtain rfl := Option.some.inj H
            go_wp2_with (first | (go_at_call 16; (with_reducible refine (token_All.calls a0 t265 t266 t267 _ ?side1 A7.out).mono ?_); (case side1 => exact hG.below (by repeat (first | (with_reducible first | exact HB.out | apply below_alloc | apply pw_below_drewN | apply below_drew1) | exact HB.out))); rintro e w56 ⟨v268, rfl, ho0, hb⟩; have n0_ := Aside0.mk (Kd.R_lower ho0 (below_size (by repeat (first | (with_reducible first | exact HB.out | apply below_alloc | apply pw_below_drewN | apply below_drew1) | exact HB.out)))); have n1_ := Aside0.mk (below_step (by repeat (first | (with_reducible first | exact HB.out | apply below_alloc | apply pw_below_drewN | apply below_drew1) | exact HB.out)) hb); clear HB; have HO269 := n0_; have HB := n1_; clear n0_ n1_; (try clear hb); (try clear hb2); (try clear hk); (try clear hi); (try clear ho0); obtain ⟨Ao57, co57, eo57⟩ := Kd.R_slice HO269.out; subst eo57))
            repeat (go_quiet (first | (go_at_call 16; (with_reducible refine (token_All.calls a0 t265 t266 t267 _ ?side1 A7.out).mono ?_); (case side1 => exact hG.below (by repeat (first | (with_reducible first | exact HB.out | apply below_alloc | apply pw_below_drewN | apply below_drew1) | exact HB.out))); rintro e w56 ⟨v268, rfl, ho0, hb⟩; have n0_ := Aside0.mk (Kd.R_lower ho0 (below_size (by repeat (first | (with_reducible first | exact HB.out | apply below_alloc | apply pw_below_drewN | apply below_drew1) | exact HB.out)))); have n1_ := Aside0.mk (below_step (by repeat (first | (with_reducible first | exact HB.out | apply below_alloc | apply pw_below_drewN | apply below_drew1) | exact HB.out)) hb); clear HB; have HO269 := n0_; have HB := n1_; clear n0_ n1_; (try clear hb); (try clear hb2); (try clear hk); (try clear hi); (try clear ho0); obtain ⟨Ao57, co57, eo57⟩ := Kd.R_slice HO269.out; subst eo57)); try go_wp2_with (first | (go_at_call 16; (with_reducible refine (token_All.calls a0 t265 t266 t267 _ ?side1 A7.out).mono ?_); (case side1 => exact hG.below (by repeat (first | (with_reducible first | exact HB.out | apply below_alloc | apply pw_below_drewN | apply below_drew1) | exact HB.out))); rintro e w56 ⟨v268, rfl, ho0, hb⟩; have n0_ := Aside0.mk (Kd.R_lower ho0 (below_size (by repeat (first | (with_reducible first | exact HB.out | apply below_alloc | apply pw_below_drewN | apply below_drew1) | exact HB.out)))); have n1_ := Aside0.mk (below_step (by repeat (first | (with_reducible first | exact HB.out | apply below_alloc | apply pw_below_drewN | apply below_drew1) | exact HB.out)) hb); clear HB; have HO269 := n0_; have HB := n1_; clear n0_ n1_; (try clear hb); (try clear hb2); (try clear hk); (try clear hi); (try clear ho0); obtain ⟨Ao57, co57, eo57⟩ := Kd.R_slice HO269.out; subst eo57)))
            go_ret
            exact ⟨by first | rfl | (simp [errW_none, errW_some] <;> rfl) | (simp [*, errW_none, errW_some] <;> rfl), by repeat (first | (with_reducible first | exact HB.out | apply below_alloc | apply pw_below_drewN | apply below_drew1) | exact HB.out)⟩

/-- THE ONE PURE STATEMENT of trufflelaw06_TokenPlaces: yours. -/
def trufflelaw06_TokenPlaces.Pure : Prop := ∀ (a0 : ByteArray), a0.size ≤ 140737488351232 → ∃ k, trufflelaw06_TokenPlaces.f k a0 = some true
theorem trufflelaw06_TokenPlaces.walk (P : trufflelaw06_TokenPlaces.Pure) (a0 : ByteArray) (w : World) (w0 : a0.size ≤ 140737488351232) (hG : GInv w) :
    Calls Tryd.prog 4 #[.string a0] w fun e w' => e = .returned (.bool true) ∧ Below w.heap.size w w' := by
  obtain ⟨k, h⟩ := P a0 w0
  refine (trufflelaw06_TokenPlaces.calls k a0 true w hG h).mono ?_
  rintro e w' ⟨rfl, hd⟩
  exact ⟨rfl, hd⟩

end Go.Proofs.YtngcojabofkbjaaDoor.P
