-- PRINTED by a program of this session (wip/mp.py over the kit's print) out of the translation. Not trusted: Lean checks it.
import Derived.Test.YtngcojabofkbjaaDoorPx0
import Derived.Test.YtngcojabofkbjaaDoorPx7
import Derived.Test.YtngcojabofkbjaaDoorGGInv
import Derived.Test.YtngcojabofkbjaaDoorGLex
namespace Go.Proofs.YtngcojabofkbjaaDoor.P
open Go.RowKit Go.Proofs.YtngcojabofkbjaaDoorW.PrintWords Go.Proofs.YtngcojabofkbjaaDoorW.PrintLast Go.Proofs.YtngcojabofkbjaaDoorW.PrintMore
attribute [local go_sem] max2_int min2_int max_two min_two max_three min_three max_four min_four   -- for this text's walks alone
set_option linter.unusedVariables false
set_option linter.unusedSimpArgs false

/-! ### trufflelaw06_TokenBlanks: function 3 -/
mutual
def trufflelaw06_TokenBlanks.j0 : Nat → ByteArray → Int → Bool → Bool → Option (Bool)
  | 0, _, _, _, _ => none
  | k + 1, x0, x1, x5, x33 => if x33 = true then (some x5) else (trufflelaw06_TokenBlanks.l0 k x0 x1 (⟨#[47, 47, 32, 120, 10]⟩ : ByteArray) 0)
def trufflelaw06_TokenBlanks.l0 : Nat → ByteArray → Int → ByteArray → Int → Option (Bool)
  | 0, _, _, _, _ => none
  | k + 1, x0, x1, x6, x7 => if x7 < x1 then (if 0 ≤ (Int.tmod x7 4) then (if (Int.tmod x7 4) ≤ (wrap64 ((Int.tmod x7 4) + 1)) then (if (wrap64 ((Int.tmod x7 4) + 1)) ≤ 4 then (if x6.size + ((⟨#[32, 9, 10, 13]⟩ : ByteArray).extract ((Int.tmod x7 4) : Int).toNat ((wrap64 ((Int.tmod x7 4) + 1)) : Int).toNat).size ≤ 9223372036854775807 then (trufflelaw06_TokenBlanks.l0 k x0 x1 (x6 ++ ((⟨#[32, 9, 10, 13]⟩ : ByteArray).extract ((Int.tmod x7 4) : Int).toNat ((wrap64 ((Int.tmod x7 4) + 1)) : Int).toNat)) (wrap64 (x7 + 1))) else (none)) else (none)) else (none)) else (none)) else ((token_All.f x0).bind fun bt151 => (if x6.size + x0.size ≤ 9223372036854775807 then ((token_All.f (x6 ++ x0)).bind fun bt156 => (if x0.size + 1 ≤ 9223372036854775807 then (if (x0 ++ (⟨#[10]⟩ : ByteArray)).size + x6.size ≤ 9223372036854775807 then ((token_All.f ((x0 ++ (⟨#[10]⟩ : ByteArray)) ++ x6)).bind fun bt161 => (if bt151.2.2 = bt156.2.2 then (if bt151.2.2 = 0 then (if bt161.2.2 = 0 then ((truffleref06_Same.f k bt151.1 bt161.1).bind fun t166 => (if t166 = true then (trufflelaw06_TokenBlanks.j2 k x6 bt151.1 bt156.1 ((bt151.1.length : Int) != (bt156.1.length : Int))) else (trufflelaw06_TokenBlanks.j2 k x6 bt151.1 bt156.1 true))) else (trufflelaw06_TokenBlanks.j2 k x6 bt151.1 bt156.1 true)) else (if bt156.2.1 = (wrap64 (bt151.2.1 + (x6.size : Int))) then (trufflelaw06_TokenBlanks.j2 k x6 bt151.1 bt156.1 ((bt151.1.length : Int) != (bt156.1.length : Int))) else (trufflelaw06_TokenBlanks.j2 k x6 bt151.1 bt156.1 true))) else (trufflelaw06_TokenBlanks.j2 k x6 bt151.1 bt156.1 true))) else (none)) else (none))) else (none)))
def trufflelaw06_TokenBlanks.j2 : Nat → ByteArray → List (S29) → List (S29) → Bool → Option (Bool)
  | 0, _, _, _, _ => none
  | k + 1, x6, x8, x11, x106 => if x106 = true then (some false) else (trufflelaw06_TokenBlanks.l1 k x6 x8 x11 0)
def trufflelaw06_TokenBlanks.l1 : Nat → ByteArray → List (S29) → List (S29) → Int → Option (Bool)
  | 0, _, _, _, _ => none
  | k + 1, x6, x8, x11, x17 => if x17 < (x8.length : Int) then (if 0 ≤ x17 then (if x17 < (x11.length : Int) then (trufflelaw06_TokenBlanks.l1 k x6 x8 (x11.set (x17 : Int).toNat (⟨(rd_T29 x11 x17).f0, (rd_T29 x11 x17).f1, (rd_T29 x11 x17).f2, wrap64 (((rd_T29 x11 x17).f3) - (x6.size : Int))⟩ : S29)) (wrap64 (x17 + 1))) else (none)) else (none)) else ((truffleref06_Same.f k x8 x11).bind fun t169 => (some t169))
end
def trufflelaw06_TokenBlanks.f (k : Nat) (a0 : ByteArray) (a1 : Int) : Option (Bool) := (trufflelaw06_awake.f).bind fun t150 => (if t150 = true then (if (a0.size : Int) > 1000 then (trufflelaw06_TokenBlanks.j0 k a0 a1 t150 true) else (if a1 < 0 then (trufflelaw06_TokenBlanks.j0 k a0 a1 t150 true) else (trufflelaw06_TokenBlanks.j0 k a0 a1 t150 (decide (a1 > 100))))) else (trufflelaw06_TokenBlanks.j0 k a0 a1 t150 true))
theorem trufflelaw06_TokenBlanks.mono_l : ∀ k, (∀ y0 y1 y2 y3, LeO (trufflelaw06_TokenBlanks.j0 k y0 y1 y2 y3) (trufflelaw06_TokenBlanks.j0 (k + 1) y0 y1 y2 y3)) ∧ (∀ y0 y1 y2 y3, LeO (trufflelaw06_TokenBlanks.l0 k y0 y1 y2 y3) (trufflelaw06_TokenBlanks.l0 (k + 1) y0 y1 y2 y3)) ∧ (∀ y0 y1 y2 y3, LeO (trufflelaw06_TokenBlanks.j2 k y0 y1 y2 y3) (trufflelaw06_TokenBlanks.j2 (k + 1) y0 y1 y2 y3)) ∧ (∀ y0 y1 y2 y3, LeO (trufflelaw06_TokenBlanks.l1 k y0 y1 y2 y3) (trufflelaw06_TokenBlanks.l1 (k + 1) y0 y1 y2 y3))
  | 0 => ⟨fun _ _ _ _ r h => by simp [trufflelaw06_TokenBlanks.j0] at h, fun _ _ _ _ r h => by simp [trufflelaw06_TokenBlanks.l0] at h, fun _ _ _ _ r h => by simp [trufflelaw06_TokenBlanks.j2] at h, fun _ _ _ _ r h => by simp [trufflelaw06_TokenBlanks.l1] at h⟩
  | k + 1 => by
    obtain ⟨ih0, ih1, ih2, ih3⟩ := trufflelaw06_TokenBlanks.mono_l k
    refine ⟨?_, ?_, ?_, ?_⟩
    · intro y0 y1 y2 y3
      unfold trufflelaw06_TokenBlanks.j0
      repeat' first
      | (with_reducible exact ih0 _ _ _ _)
      | (with_reducible exact ih1 _ _ _ _)
      | (with_reducible exact ih2 _ _ _ _)
      | (with_reducible exact ih3 _ _ _ _)
      | (with_reducible exact truffleref06_Same.mono _ _ _)
      | (with_reducible exact LeO.refl _)
      | (with_reducible exact LeO.none _)
      | (with_reducible refine LeO.ite ?_ ?_)
      | (with_reducible refine LeO.bind ?_ (fun _ => ?_))
      | exact ih0 _ _ _ _
      | exact ih1 _ _ _ _
      | exact ih2 _ _ _ _
      | exact ih3 _ _ _ _
      | exact truffleref06_Same.mono _ _ _
      | exact LeO.none _
      | refine LeO.ite ?_ ?_
      | refine LeO.bind ?_ (fun _ => ?_)
    · intro y0 y1 y2 y3
      unfold trufflelaw06_TokenBlanks.l0
      repeat' first
      | (with_reducible exact ih0 _ _ _ _)
      | (with_reducible exact ih1 _ _ _ _)
      | (with_reducible exact ih2 _ _ _ _)
      | (with_reducible exact ih3 _ _ _ _)
      | (with_reducible exact truffleref06_Same.mono _ _ _)
      | (with_reducible exact LeO.refl _)
      | (with_reducible exact LeO.none _)
      | (with_reducible refine LeO.ite ?_ ?_)
      | (with_reducible refine LeO.bind ?_ (fun _ => ?_))
      | exact ih0 _ _ _ _
      | exact ih1 _ _ _ _
      | exact ih2 _ _ _ _
      | exact ih3 _ _ _ _
      | exact truffleref06_Same.mono _ _ _
      | exact LeO.none _
      | refine LeO.ite ?_ ?_
      | refine LeO.bind ?_ (fun _ => ?_)
    · intro y0 y1 y2 y3
      unfold trufflelaw06_TokenBlanks.j2
      repeat' first
      | (with_reducible exact ih0 _ _ _ _)
      | (with_reducible exact ih1 _ _ _ _)
      | (with_reducible exact ih2 _ _ _ _)
      | (with_reducible exact ih3 _ _ _ _)
      | (with_reducible exact truffleref06_Same.mono _ _ _)
      | (with_reducible exact LeO.refl _)
      | (with_reducible exact LeO.none _)
      | (with_reducible refine LeO.ite ?_ ?_)
      | (with_reducible refine LeO.bind ?_ (fun _ => ?_))
      | exact ih0 _ _ _ _
      | exact ih1 _ _ _ _
      | exact ih2 _ _ _ _
      | exact ih3 _ _ _ _
      | exact truffleref06_Same.mono _ _ _
      | exact LeO.none _
      | refine LeO.ite ?_ ?_
      | refine LeO.bind ?_ (fun _ => ?_)
    · intro y0 y1 y2 y3
      unfold trufflelaw06_TokenBlanks.l1
      repeat' first
      | (with_reducible exact ih0 _ _ _ _)
      | (with_reducible exact ih1 _ _ _ _)
      | (with_reducible exact ih2 _ _ _ _)
      | (with_reducible exact ih3 _ _ _ _)
      | (with_reducible exact truffleref06_Same.mono _ _ _)
      | (with_reducible exact LeO.refl _)
      | (with_reducible exact LeO.none _)
      | (with_reducible refine LeO.ite ?_ ?_)
      | (with_reducible refine LeO.bind ?_ (fun _ => ?_))
      | exact ih0 _ _ _ _
      | exact ih1 _ _ _ _
      | exact ih2 _ _ _ _
      | exact ih3 _ _ _ _
      | exact truffleref06_Same.mono _ _ _
      | exact LeO.none _
      | refine LeO.ite ?_ ?_
      | refine LeO.bind ?_ (fun _ => ?_)
theorem trufflelaw06_TokenBlanks.mono : ∀ a0 a1 k, LeO (trufflelaw06_TokenBlanks.f k a0 a1) (trufflelaw06_TokenBlanks.f (k + 1) a0 a1) := by
  intro a0 a1 k
  obtain ⟨ih0, ih1, ih2, ih3⟩ := trufflelaw06_TokenBlanks.mono_l k
  unfold trufflelaw06_TokenBlanks.f
  repeat' first
      | (with_reducible exact ih0 _ _ _ _)
      | (with_reducible exact ih1 _ _ _ _)
      | (with_reducible exact ih2 _ _ _ _)
      | (with_reducible exact ih3 _ _ _ _)
      | (with_reducible exact truffleref06_Same.mono _ _ _)
      | (with_reducible exact LeO.refl _)
      | (with_reducible exact LeO.none _)
      | (with_reducible refine LeO.ite ?_ ?_)
      | (with_reducible refine LeO.bind ?_ (fun _ => ?_))
      | exact ih0 _ _ _ _
      | exact ih1 _ _ _ _
      | exact ih2 _ _ _ _
      | exact ih3 _ _ _ _
      | exact truffleref06_Same.mono _ _ _
      | exact LeO.none _
      | refine LeO.ite ?_ ?_
      | refine LeO.bind ?_ (fun _ => ?_)
set_option maxHeartbeats 8000000 in
set_option maxRecDepth 100000 in
theorem trufflelaw06_TokenBlanks.calls (k : Nat) (a0 : ByteArray) (a1 : Int) (r : Bool) (w : World) (hG : GInv w) (h : trufflelaw06_TokenBlanks.f k a0 a1 = some r) :
    Calls Tryd.prog 3 #[.string a0, .int .i64 a1] w fun e w' => e = .returned (.bool r) ∧ Below w.heap.size w w' := by
  have HB := Aside0.mk (Below.refl w.heap.size w)
  have H : ((trufflelaw06_awake.f).bind fun t150 => (if t150 = true then (if (a0.size : Int) > 1000 then (trufflelaw06_TokenBlanks.j0 k a0 a1 t150 true) else (if a1 < 0 then (trufflelaw06_TokenBlanks.j0 k a0 a1 t150 true) else (trufflelaw06_TokenBlanks.j0 k a0 a1 t150 (decide (a1 > 100))))) else (trufflelaw06_TokenBlanks.j0 k a0 a1 t150 true))) = some r := h
  clear h
  replace H := Option.bind_eq_some_iff.mp H
  obtain ⟨t150, A30, H⟩ := H
  replace H : (if t150 = true then (if (a0.size : Int) > 1000 then (trufflelaw06_TokenBlanks.j0 k a0 a1 t150 true) else (if a1 < 0 then (trufflelaw06_TokenBlanks.j0 k a0 a1 t150 true) else (trufflelaw06_TokenBlanks.j0 k a0 a1 t150 (decide (a1 > 100))))) else (trufflelaw06_TokenBlanks.j0 k a0 a1 t150 true)) = some r := H
  have A3 := Aside0.mk A30
  clear A30
  have HC4 := Aside0.mk H
  clear H
  go_enter Tryd.func3, Tryd.ntmps3
  go_upto_region 2 with (first | ((with_reducible refine gate_callee (f := 15) rfl ?_); refine goesL_ (some 18) rfl rfl Tryd.func15 (by kernel_rfl) rfl #[] rfl (by (try simp only [List.map_toArray, List.map_cons, List.map_nil]); first | done | rfl | (simp only [List.length_drop, List.length_take]; rfl)) ?_; (with_reducible refine (trufflelaw06_awake.calls  t150 _ ?side1 A3.out).mono ?_); (case side1 => exact hG.below (by repeat (first | (with_reducible first | exact HB.out | apply below_alloc | apply pw_below_drewN | apply below_drew1) | exact HB.out))); rintro e w5 ⟨rfl, hb⟩; refine ⟨_, rfl, ?_⟩; have n0_ := Aside0.mk (below_step (by repeat (first | (with_reducible first | exact HB.out | apply below_alloc | apply pw_below_drewN | apply below_drew1) | exact HB.out)) hb); clear HB; have HB := n0_; clear n0_; (try clear hb); (try clear hb2); (try clear hk); (try clear hi)))
  (try simp only [Act.put, List.setIfInBounds_toArray, List.set_cons_zero, List.set_cons_succ])
  go_cut [33] (fun v33 wc => ∃ (kq : Nat) (x33_3 : Bool), v33 = .bool x33_3 ∧ Aside0 (trufflelaw06_TokenBlanks.j0 kq a0 a1 t150 x33_3 = some r) ∧ Aside0 (kq ≤ k) ∧ Aside0 (Below w.heap.size w wc))
  case first =>
    have H := HC4.out
    clear HC4
    by_cases c6 : t150 = true
    · subst c6
      have H1 : (if (a0.size : Int) > 1000 then (trufflelaw06_TokenBlanks.j0 k a0 a1 true true) else (if a1 < 0 then (trufflelaw06_TokenBlanks.j0 k a0 a1 true true) else (trufflelaw06_TokenBlanks.j0 k a0 a1 true (decide (a1 > 100))))) = some r := by rw [if_pos rfl] at H; exact H
      clear H
      have H := H1
      clear H1
      by_cases c7 : (a0.size : Int) > 1000
      · rw [if_pos c7] at H
        have c7b0 : decide (1000 < (a0.size : Int)) = true := decide_eq_true c7
        have c7b1 : decide (1000 < a0.size) = true := decide_eq_true (by omega)
        clear c7
        (first | rw [c7b0] | (simp only [i64_w, i32_w]; rw [c7b0]) | skip)
        have H' := Aside0.mk H
        clear H
        go_wp2
        go_meet
        case rel => exact ⟨_, (true), (by first | rfl | (simp; done) | (simp [*]; done)), H', ⟨by first | omega | exact Nat.le_refl _⟩, ⟨by repeat (first | (with_reducible first | exact HB.out | apply below_alloc | apply pw_below_drewN | apply below_drew1) | exact HB.out)⟩⟩
      · rw [if_neg c7] at H
        have c7b0 : decide (1000 < (a0.size : Int)) = false := decide_eq_false c7
        have c7b1 : decide (1000 < a0.size) = false := decide_eq_false (by omega)
        clear c7
        (first | rw [c7b0] | (simp only [i64_w, i32_w]; rw [c7b0]) | skip)
        by_cases c8 : a1 < 0
        · rw [if_pos c8] at H
          have c8b0 : decide (a1 < 0) = true := decide_eq_true c8
          clear c8
          have H' := Aside0.mk H
          clear H
          go_wp2
          go_meet
          case rel => exact ⟨_, (true), (by first | rfl | (simp; done) | (simp [*]; done)), H', ⟨by first | omega | exact Nat.le_refl _⟩, ⟨by repeat (first | (with_reducible first | exact HB.out | apply below_alloc | apply pw_below_drewN | apply below_drew1) | exact HB.out)⟩⟩
        · rw [if_neg c8] at H
          have c8b0 : decide (a1 < 0) = false := decide_eq_false c8
          clear c8
          have H' := Aside0.mk H
          clear H
          go_wp2
          go_meet
          case rel => exact ⟨_, (decide (a1 > 100)), (by first | rfl | (simp; done) | (simp [*]; done)), H', ⟨by first | omega | exact Nat.le_refl _⟩, ⟨by repeat (first | (with_reducible first | exact HB.out | apply below_alloc | apply pw_below_drewN | apply below_drew1) | exact HB.out)⟩⟩
    · replace c6 := Bool.eq_false_iff.mpr c6
      subst c6
      have H1 : (trufflelaw06_TokenBlanks.j0 k a0 a1 false true) = some r := by rw [if_neg (show ¬ (false = true) by decide)] at H; exact H
      clear H
      have H := H1
      clear H1
      have H' := Aside0.mk H
      clear H
      go_wp2
      go_meet
      case rel => exact ⟨_, (true), (by first | rfl | (simp; done) | (simp [*]; done)), H', ⟨by first | omega | exact Nat.le_refl _⟩, ⟨by repeat (first | (with_reducible first | exact HB.out | apply below_alloc | apply pw_below_drewN | apply below_drew1) | exact HB.out)⟩⟩
  case rest =>
    clear HC4
    try clear c1
    try clear p2
    try clear c3
    try clear c6
    try clear c7
    try clear c7b0
    try clear c7b1
    try clear c8
    try clear c8b0
    obtain ⟨kq, x33_3, rfl, HA, HJ3, HB⟩ := hcut
    cases kq with
    | zero => exact absurd HA.out (by simp [trufflelaw06_TokenBlanks.j0])
    | succ kj3 =>
      have H := HA.out
      clear HA
      simp only [trufflelaw06_TokenBlanks.j0] at H
      by_cases c9 : x33_3 = true
      · subst c9
        have H1 : (some t150) = some r := by rw [if_pos rfl] at H; exact H
        clear H
        have H := H1
        clear H1
        obtain rfl := Option.some.inj H
        go_wp2
        go_ret
        exact ⟨by first | rfl | (simp [errW_none, errW_some] <;> rfl) | (simp [*, errW_none, errW_some] <;> rfl), by repeat (first | (with_reducible first | exact HB.out | apply below_alloc | apply pw_below_drewN | apply below_drew1) | exact HB.out)⟩
      · replace c9 := Bool.eq_false_iff.mpr c9
        subst c9
        have H1 : (trufflelaw06_TokenBlanks.l0 kj3 a0 a1 (⟨#[47, 47, 32, 120, 10]⟩ : ByteArray) 0) = some r := by rw [if_neg (show ¬ (false = true) by decide)] at H; exact H
        clear H
        have H := H1
        clear H1
        have H' := Aside0.mk H
        clear H
        go_wp2
        go_loopg [6, 7] kj3 (fun kq v6 v7 w' => ∃ (x6_2 : ByteArray) (x7_2 : Int), v6 = .string x6_2 ∧ v7 = .int .i64 x7_2 ∧ Aside0 (trufflelaw06_TokenBlanks.l0 kq a0 a1 x6_2 x7_2 = some r) ∧ Aside0 (kq ≤ kj3) ∧ Aside0 (Below w.heap.size w w'))
        case atStart => exact ⟨((⟨#[47, 47, 32, 120, 10]⟩ : ByteArray)), (0), (by first | rfl | (simp; done) | (simp [*]; done)), (by first | rfl | (simp; done) | (simp [*]; done)), H', ⟨Nat.le_refl _⟩, ⟨by repeat (first | (with_reducible first | exact HB.out | apply below_alloc | apply pw_below_drewN | apply below_drew1) | exact HB.out)⟩⟩
        case round =>
          clear H'
          try clear c1
          try clear p2
          try clear c3
          try clear c6
          try clear c7
          try clear c7b0
          try clear c7b1
          try clear c8
          try clear c8b0
          try clear c9
          try clear p2
          obtain ⟨x6_2, x7_2, rfl, rfl, HA, HK2, HB⟩ := hrel
          cases gk with
          | zero => exact absurd HA.out (by simp [trufflelaw06_TokenBlanks.l0])
          | succ k2 =>
            have H := HA.out
            clear HA
            simp only [trufflelaw06_TokenBlanks.l0] at H
            by_cases c10 : x7_2 < a1
            · rw [if_pos c10] at H
              have c10b0 : decide (x7_2 < a1) = true := decide_eq_true c10
              clear c10
              obtain ⟨ji11, hji11⟩ : ∃ j_ : Int, (Int.tmod x7_2 4) = j_ := ⟨_, rfl⟩
              replace H : (if 0 ≤ (ji11) then (if (ji11) ≤ (wrap64 ((ji11) + 1)) then (if (wrap64 ((ji11) + 1)) ≤ 4 then (if x6_2.size + ((⟨#[32, 9, 10, 13]⟩ : ByteArray).extract ((ji11) : Int).toNat ((wrap64 ((ji11) + 1)) : Int).toNat).size ≤ 9223372036854775807 then (trufflelaw06_TokenBlanks.l0 k2 a0 a1 (x6_2 ++ ((⟨#[32, 9, 10, 13]⟩ : ByteArray).extract ((ji11) : Int).toNat ((wrap64 ((ji11) + 1)) : Int).toNat)) (wrap64 (x7_2 + 1))) else (none)) else (none)) else (none)) else (none)) = some r := by first | (rw [hji11] at H; exact H) | (simp only [hji11] at H ⊢; exact H)
              by_cases c12 : 0 ≤ (ji11)
              · rw [if_pos c12] at H
                have c12b0 := eq_true c12
                have c12b1 : decide (0 ≤ (ji11)) = true := decide_eq_true c12
                clear c12
                by_cases c13 : (ji11) ≤ (wrap64 ((ji11) + 1))
                · rw [if_pos c13] at H
                  have c13b0 := eq_true c13
                  have c13b1 : decide ((ji11) ≤ (wrap64 ((ji11) + 1))) = true := decide_eq_true c13
                  by_cases c14 : (wrap64 ((ji11) + 1)) ≤ 4
                  · rw [if_pos c14] at H
                    have c14b0 := eq_true c14
                    have c14b1 : decide ((wrap64 ((ji11) + 1)) ≤ 4) = true := decide_eq_true c14
                    by_cases c15 : x6_2.size + ((⟨#[32, 9, 10, 13]⟩ : ByteArray).extract ((ji11) : Int).toNat ((wrap64 ((ji11) + 1)) : Int).toNat).size ≤ 9223372036854775807
                    · rw [if_pos c15] at H
                      have c15b0 := eq_true c15
                      have c15b1 : decide (x6_2.size + ((⟨#[32, 9, 10, 13]⟩ : ByteArray).extract ((ji11) : Int).toNat ((wrap64 ((ji11) + 1)) : Int).toNat).size ≤ 9223372036854775807) = true := decide_eq_true c15
                      try have c15b2 : (9223372036854775807 < x6_2.size + ((⟨#[32, 9, 10, 13]⟩ : ByteArray).extract ((ji11) : Int).toNat ((wrap64 ((ji11) + 1)) : Int).toNat).size) = False := eq_false (Nat.not_lt.2 c15)
                      have H' := Aside0.mk H
                      clear H
                      go_wp2
                      go_roundg k2
                      case measure => have := HJ3.out; have := HK2.out; omega
                      case rel => exact ⟨(x6_2 ++ ((⟨#[32, 9, 10, 13]⟩ : ByteArray).extract ((ji11) : Int).toNat ((wrap64 ((ji11) + 1)) : Int).toNat)), (wrap64 (x7_2 + 1)), (by first | rfl | (simp; done) | (simp only [← hji11] <;> (first | rfl | simp)) | (simp [*]; done)), (by first | rfl | (simp; done) | (simp [*]; done)), H', ⟨by have := HJ3.out; have := HK2.out; omega⟩, ⟨by repeat (first | (with_reducible first | exact HB.out | apply below_alloc | apply pw_below_drewN | apply below_drew1) | exact HB.out)⟩⟩
                    · rw [if_neg c15] at H
                      exact absurd H (by simp)
                  · rw [if_neg c14] at H
                    exact absurd H (by simp)
                · rw [if_neg c13] at H
                  exact absurd H (by simp)
              · rw [if_neg c12] at H
                exact absurd H (by simp)
            · rw [if_neg c10] at H
              have c10b0 : decide (x7_2 < a1) = false := decide_eq_false c10
              clear c10
              replace H := Option.bind_eq_some_iff.mp H
              obtain ⟨⟨t151, t152, t153⟩, A160, H⟩ := H
              replace H : (if x6_2.size + a0.size ≤ 9223372036854775807 then ((token_All.f (x6_2 ++ a0)).bind fun bt156 => (if a0.size + 1 ≤ 9223372036854775807 then (if (a0 ++ (⟨#[10]⟩ : ByteArray)).size + x6_2.size ≤ 9223372036854775807 then ((token_All.f ((a0 ++ (⟨#[10]⟩ : ByteArray)) ++ x6_2)).bind fun bt161 => (if t153 = bt156.2.2 then (if t153 = 0 then (if bt161.2.2 = 0 then ((truffleref06_Same.f k2 t151 bt161.1).bind fun t166 => (if t166 = true then (trufflelaw06_TokenBlanks.j2 k2 x6_2 t151 bt156.1 ((t151.length : Int) != (bt156.1.length : Int))) else (trufflelaw06_TokenBlanks.j2 k2 x6_2 t151 bt156.1 true))) else (trufflelaw06_TokenBlanks.j2 k2 x6_2 t151 bt156.1 true)) else (if bt156.2.1 = (wrap64 (t152 + (x6_2.size : Int))) then (trufflelaw06_TokenBlanks.j2 k2 x6_2 t151 bt156.1 ((t151.length : Int) != (bt156.1.length : Int))) else (trufflelaw06_TokenBlanks.j2 k2 x6_2 t151 bt156.1 true))) else (trufflelaw06_TokenBlanks.j2 k2 x6_2 t151 bt156.1 true))) else (none)) else (none))) else (none)) = some r := H
              have A16 := Aside0.mk A160
              clear A160
              by_cases c17 : x6_2.size + a0.size ≤ 9223372036854775807
              · rw [if_pos c17] at H
                have c17b0 := eq_true c17
                have c17b1 : decide (x6_2.size + a0.size ≤ 9223372036854775807) = true := decide_eq_true c17
                try have c17b2 : (9223372036854775807 < x6_2.size + a0.size) = False := eq_false (Nat.not_lt.2 c17)
                replace H := Option.bind_eq_some_iff.mp H
                obtain ⟨⟨t156, t157, t158⟩, A180, H⟩ := H
                replace H : (if a0.size + 1 ≤ 9223372036854775807 then (if (a0 ++ (⟨#[10]⟩ : ByteArray)).size + x6_2.size ≤ 9223372036854775807 then ((token_All.f ((a0 ++ (⟨#[10]⟩ : ByteArray)) ++ x6_2)).bind fun bt161 => (if t153 = t158 then (if t153 = 0 then (if bt161.2.2 = 0 then ((truffleref06_Same.f k2 t151 bt161.1).bind fun t166 => (if t166 = true then (trufflelaw06_TokenBlanks.j2 k2 x6_2 t151 t156 ((t151.length : Int) != (t156.length : Int))) else (trufflelaw06_TokenBlanks.j2 k2 x6_2 t151 t156 true))) else (trufflelaw06_TokenBlanks.j2 k2 x6_2 t151 t156 true)) else (if t157 = (wrap64 (t152 + (x6_2.size : Int))) then (trufflelaw06_TokenBlanks.j2 k2 x6_2 t151 t156 ((t151.length : Int) != (t156.length : Int))) else (trufflelaw06_TokenBlanks.j2 k2 x6_2 t151 t156 true))) else (trufflelaw06_TokenBlanks.j2 k2 x6_2 t151 t156 true))) else (none)) else (none)) = some r := H
                have A18 := Aside0.mk A180
                clear A180
                by_cases c19 : a0.size + 1 ≤ 9223372036854775807
                · rw [if_pos c19] at H
                  have c19b0 := eq_true c19
                  have c19b1 : decide (a0.size + 1 ≤ 9223372036854775807) = true := decide_eq_true c19
                  try have c19b2 : (9223372036854775807 < a0.size + 1) = False := eq_false (Nat.not_lt.2 c19)
                  by_cases c20 : (a0 ++ (⟨#[10]⟩ : ByteArray)).size + x6_2.size ≤ 9223372036854775807
                  · rw [if_pos c20] at H
                    have c20b0 := eq_true c20
                    have c20b1 : decide ((a0 ++ (⟨#[10]⟩ : ByteArray)).size + x6_2.size ≤ 9223372036854775807) = true := decide_eq_true c20
                    try have c20b2 : (9223372036854775807 < (a0 ++ (⟨#[10]⟩ : ByteArray)).size + x6_2.size) = False := eq_false (Nat.not_lt.2 c20)
                    replace H := Option.bind_eq_some_iff.mp H
                    obtain ⟨⟨t161, t162, t163⟩, A210, H⟩ := H
                    replace H : (if t153 = t158 then (if t153 = 0 then (if t163 = 0 then ((truffleref06_Same.f k2 t151 t161).bind fun t166 => (if t166 = true then (trufflelaw06_TokenBlanks.j2 k2 x6_2 t151 t156 ((t151.length : Int) != (t156.length : Int))) else (trufflelaw06_TokenBlanks.j2 k2 x6_2 t151 t156 true))) else (trufflelaw06_TokenBlanks.j2 k2 x6_2 t151 t156 true)) else (if t157 = (wrap64 (t152 + (x6_2.size : Int))) then (trufflelaw06_TokenBlanks.j2 k2 x6_2 t151 t156 ((t151.length : Int) != (t156.length : Int))) else (trufflelaw06_TokenBlanks.j2 k2 x6_2 t151 t156 true))) else (trufflelaw06_TokenBlanks.j2 k2 x6_2 t151 t156 true)) = some r := H
                    have A21 := Aside0.mk A210
                    clear A210
                    have HC22 := Aside0.mk H
                    clear H
                    go_upto_region 12 with (first | ((with_reducible refine gate_callee (f := 16) rfl ?_); refine goesL_ (some 50) rfl rfl Tryd.func16 (by kernel_rfl) rfl #[.string a0] rfl (by (try simp only [List.map_toArray, List.map_cons, List.map_nil]); first | done | rfl | (simp only [List.length_drop, List.length_take]; rfl)) ?_; (with_reducible refine (token_All.calls a0 t151 t152 t153 _ ?side1 A16.out).mono ?_); (case side1 => exact hG.below (by repeat (first | (with_reducible first | exact HB.out | apply below_alloc | apply pw_below_drewN | apply below_drew1) | exact HB.out))); rintro e w23 ⟨v154, rfl, ho0, hb⟩; refine ⟨_, rfl, ?_⟩; have n0_ := Aside0.mk (Kd.R_lower ho0 (below_size (by repeat (first | (with_reducible first | exact HB.out | apply below_alloc | apply pw_below_drewN | apply below_drew1) | exact HB.out)))); have n1_ := Aside0.mk (below_step (by repeat (first | (with_reducible first | exact HB.out | apply below_alloc | apply pw_below_drewN | apply below_drew1) | exact HB.out)) hb); clear HB; have HO155 := n0_; have HB := n1_; clear n0_ n1_; (try clear hb); (try clear hb2); (try clear hk); (try clear hi); (try clear ho0)) | ((with_reducible refine gate_callee (f := 16) rfl ?_); refine goesL_ (some 58) rfl rfl Tryd.func16 (by kernel_rfl) rfl #[.string (x6_2 ++ a0)] rfl (by (try simp only [List.map_toArray, List.map_cons, List.map_nil]); first | done | rfl | (simp only [List.length_drop, List.length_take]; rfl)) ?_; (with_reducible refine (token_All.calls (x6_2 ++ a0) t156 t157 t158 _ ?side1 A18.out).mono ?_); (case side1 => exact hG.below (by repeat (first | (with_reducible first | exact HB.out | apply below_alloc | apply pw_below_drewN | apply below_drew1) | exact HB.out))); rintro e w24 ⟨v159, rfl, ho0, hb⟩; refine ⟨_, rfl, ?_⟩; have n0_ := Aside0.mk (Kd.R_elder' (by (with_reducible repeat (first | apply Kd.R_alloc | apply Kd.R_drewN | apply Kd.R_drew)); exact HO155.out) (Kd.R_base ho0) hb); have n1_ := Aside0.mk (Kd.R_lower (Kd.R_new' ho0 (Kd.R_lt (by (with_reducible repeat (first | apply Kd.R_alloc | apply Kd.R_drewN | apply Kd.R_drew)); exact HO155.out))) (below_size (by repeat (first | (with_reducible first | exact HB.out | apply below_alloc | apply pw_below_drewN | apply below_drew1) | exact HB.out)))); have n2_ := Aside0.mk (below_step (by repeat (first | (with_reducible first | exact HB.out | apply below_alloc | apply pw_below_drewN | apply below_drew1) | exact HB.out)) hb); clear HO155; clear HB; have HO155 := n0_; have HO160 := n1_; have HB := n2_; clear n0_ n1_ n2_; (try clear hb); (try clear hb2); (try clear hk); (try clear hi); (try clear ho0)) | ((with_reducible refine gate_callee (f := 16) rfl ?_); refine goesL_ (some 67) rfl rfl Tryd.func16 (by kernel_rfl) rfl #[.string ((a0 ++ (⟨#[10]⟩ : ByteArray)) ++ x6_2)] rfl (by (try simp only [List.map_toArray, List.map_cons, List.map_nil]); first | done | rfl | (simp only [List.length_drop, List.length_take]; rfl)) ?_; (with_reducible refine (token_All.calls ((a0 ++ (⟨#[10]⟩ : ByteArray)) ++ x6_2) t161 t162 t163 _ ?side1 A21.out).mono ?_); (case side1 => exact hG.below (by repeat (first | (with_reducible first | exact HB.out | apply below_alloc | apply pw_below_drewN | apply below_drew1) | exact HB.out))); rintro e w25 ⟨v164, rfl, ho0, hb⟩; refine ⟨_, rfl, ?_⟩; have n0_ := Aside0.mk (Kd.R_elder' (by (with_reducible repeat (first | apply Kd.R_alloc | apply Kd.R_drewN | apply Kd.R_drew)); exact HO155.out) (Kd.R_base ho0) hb); have n1_ := Aside0.mk (Kd.R_elder' (by (with_reducible repeat (first | apply Kd.R_alloc | apply Kd.R_drewN | apply Kd.R_drew)); exact HO160.out) (Kd.R_base ho0) hb); have n2_ := Aside0.mk (Kd.R_lower (Kd.R_new' (Kd.R_new' ho0 (Kd.R_lt (by (with_reducible repeat (first | apply Kd.R_alloc | apply Kd.R_drewN | apply Kd.R_drew)); exact HO155.out))) (Kd.R_lt (by (with_reducible repeat (first | apply Kd.R_alloc | apply Kd.R_drewN | apply Kd.R_drew)); exact HO160.out))) (below_size (by repeat (first | (with_reducible first | exact HB.out | apply below_alloc | apply pw_below_drewN | apply below_drew1) | exact HB.out)))); have n3_ := Aside0.mk (below_step (by repeat (first | (with_reducible first | exact HB.out | apply below_alloc | apply pw_below_drewN | apply below_drew1) | exact HB.out)) hb); clear HO155; clear HO160; clear HB; have HO155 := n0_; have HO160 := n1_; have HO165 := n2_; have HB := n3_; clear n0_ n1_ n2_ n3_; (try clear hb); (try clear hb2); (try clear hk); (try clear hi); (try clear ho0)))
                    (try simp only [Act.put, List.setIfInBounds_toArray, List.set_cons_zero, List.set_cons_succ])
                    go_cut [106] (fun v106 wc => ∃ (kq : Nat) (x106_21 : Bool), v106 = .bool x106_21 ∧ Aside0 (trufflelaw06_TokenBlanks.j2 kq x6_2 t151 t156 x106_21 = some r) ∧ Aside0 (kq ≤ k2) ∧ Aside0 (Kd.R k29 29 wc w.heap.size (fun k_ => some k_ ≠ (v159 : Value).ownBlock) v154 t151) ∧ Aside0 (Kd.R k29 29 wc w.heap.size (fun k_ => some k_ ≠ (v154 : Value).ownBlock) v159 t156) ∧ Aside0 (Below w.heap.size w wc))
                    case first =>
                      have H := HC22.out
                      clear HC22
                      by_cases c26 : t153 = t158
                      · rw [if_pos c26] at H
                        have c26b0 : (t153 == t158) = true := beq_iff_eq.mpr c26
                        have c26b1 : (t153 != t158) = false := bne_eq_false_iff_eq.mpr c26
                        clear c26
                        (first | rw [c26b0] | (simp only [i64_w, i32_w]; rw [c26b0]) | skip)
                        by_cases c27 : t153 = 0
                        · rw [if_pos c27] at H
                          have c27b0 : (t153 == 0) = true := beq_iff_eq.mpr c27
                          have c27b1 : (t153 != 0) = false := bne_eq_false_iff_eq.mpr c27
                          clear c27
                          by_cases c28 : t163 = 0
                          · rw [if_pos c28] at H
                            have c28b0 : (t163 == 0) = true := beq_iff_eq.mpr c28
                            have c28b1 : (t163 != 0) = false := bne_eq_false_iff_eq.mpr c28
                            clear c28
                            replace H := Option.bind_eq_some_iff.mp H
                            obtain ⟨t166, A290, H⟩ := H
                            replace H : (if t166 = true then (trufflelaw06_TokenBlanks.j2 k2 x6_2 t151 t156 ((t151.length : Int) != (t156.length : Int))) else (trufflelaw06_TokenBlanks.j2 k2 x6_2 t151 t156 true)) = some r := H
                            have A29 := Aside0.mk A290
                            clear A290
                            by_cases c30 : t166 = true
                            · subst c30
                              have H1 : (trufflelaw06_TokenBlanks.j2 k2 x6_2 t151 t156 ((t151.length : Int) != (t156.length : Int))) = some r := by rw [if_pos rfl] at H; exact H
                              clear H
                              have H := H1
                              clear H1
                              have H' := Aside0.mk H
                              clear H
                              obtain ⟨Ao31, co31, eo31⟩ := Kd.R_slice HO155.out
                              subst eo31
                              obtain ⟨Ao32, co32, eo32⟩ := Kd.R_slice HO165.out
                              subst eo32
                              go_wp2_with (first | (go_at_call 17; (with_reducible refine (truffleref06_Same.calls k2 _ _ t151 _ _ t161 true _ ?side1 ?side2 ?side3 ?side4 A29.out).mono ?_); (case side1 => repeat (first | exact (Kd.R_reads' HO155.out).2.2 | (with_reducible refine Kd.C_alloc ?_ _) | (with_reducible refine Kd.C_drewN ?_ _) | (with_reducible refine Kd.C_drew ?_))); (case side2 => exact (Kd.R_reads' HO155.out).2.1); (case side3 => repeat (first | exact (Kd.R_reads' HO165.out).2.2 | (with_reducible refine Kd.C_alloc ?_ _) | (with_reducible refine Kd.C_drewN ?_ _) | (with_reducible refine Kd.C_drew ?_))); (case side4 => exact (Kd.R_reads' HO165.out).2.1); rintro e w' ⟨rfl, ⟨nd, rfl⟩⟩; obtain ⟨Ao33, co33, eo33⟩ := Kd.R_slice HO160.out; subst eo33))
                              go_meet
                              case rel => exact ⟨_, (((t151.length : Int) != (t156.length : Int))), (by first | rfl | (simp; done) | (simp [*]; done)), H', ⟨by have := HJ3.out; have := HK2.out; first | omega | exact Nat.le_refl _⟩, ⟨by (with_reducible repeat (first | apply Kd.R_alloc | apply Kd.R_drewN | apply Kd.R_drew)); exact Kd.R_mono HO155.out (fun _ hk => hk.1.2)⟩, ⟨by (with_reducible repeat (first | apply Kd.R_alloc | apply Kd.R_drewN | apply Kd.R_drew)); exact Kd.R_mono HO160.out (fun _ hk => hk.1.2)⟩, ⟨by repeat (first | (with_reducible first | exact HB.out | apply below_alloc | apply pw_below_drewN | apply below_drew1) | exact HB.out)⟩⟩
                            · replace c30 := Bool.eq_false_iff.mpr c30
                              subst c30
                              have H1 : (trufflelaw06_TokenBlanks.j2 k2 x6_2 t151 t156 true) = some r := by rw [if_neg (show ¬ (false = true) by decide)] at H; exact H
                              clear H
                              have H := H1
                              clear H1
                              have H' := Aside0.mk H
                              clear H
                              obtain ⟨Ao34, co34, eo34⟩ := Kd.R_slice HO155.out
                              subst eo34
                              obtain ⟨Ao35, co35, eo35⟩ := Kd.R_slice HO165.out
                              subst eo35
                              go_wp2_with (first | (go_at_call 17; (with_reducible refine (truffleref06_Same.calls k2 _ _ t151 _ _ t161 false _ ?side1 ?side2 ?side3 ?side4 A29.out).mono ?_); (case side1 => repeat (first | exact (Kd.R_reads' HO155.out).2.2 | (with_reducible refine Kd.C_alloc ?_ _) | (with_reducible refine Kd.C_drewN ?_ _) | (with_reducible refine Kd.C_drew ?_))); (case side2 => exact (Kd.R_reads' HO155.out).2.1); (case side3 => repeat (first | exact (Kd.R_reads' HO165.out).2.2 | (with_reducible refine Kd.C_alloc ?_ _) | (with_reducible refine Kd.C_drewN ?_ _) | (with_reducible refine Kd.C_drew ?_))); (case side4 => exact (Kd.R_reads' HO165.out).2.1); rintro e w' ⟨rfl, ⟨nd, rfl⟩⟩))
                              go_meet
                              case rel => exact ⟨_, (true), (by first | rfl | (simp; done) | (simp [*]; done)), H', ⟨by have := HJ3.out; have := HK2.out; first | omega | exact Nat.le_refl _⟩, ⟨by (with_reducible repeat (first | apply Kd.R_alloc | apply Kd.R_drewN | apply Kd.R_drew)); exact Kd.R_mono HO155.out (fun _ hk => hk.1.2)⟩, ⟨by (with_reducible repeat (first | apply Kd.R_alloc | apply Kd.R_drewN | apply Kd.R_drew)); exact Kd.R_mono HO160.out (fun _ hk => hk.1.2)⟩, ⟨by repeat (first | (with_reducible first | exact HB.out | apply below_alloc | apply pw_below_drewN | apply below_drew1) | exact HB.out)⟩⟩
                          · rw [if_neg c28] at H
                            have c28b0 : (t163 == 0) = false := beq_eq_false_iff_ne.mpr c28
                            have c28b1 : (t163 != 0) = true := bne_iff_ne.mpr c28
                            have H' := Aside0.mk H
                            clear H
                            go_wp2
                            go_meet
                            case rel => exact ⟨_, (true), (by first | rfl | (simp; done) | (simp [*]; done)), H', ⟨by have := HJ3.out; have := HK2.out; first | omega | exact Nat.le_refl _⟩, ⟨by (with_reducible repeat (first | apply Kd.R_alloc | apply Kd.R_drewN | apply Kd.R_drew)); exact Kd.R_mono HO155.out (fun _ hk => hk.1.2)⟩, ⟨by (with_reducible repeat (first | apply Kd.R_alloc | apply Kd.R_drewN | apply Kd.R_drew)); exact Kd.R_mono HO160.out (fun _ hk => hk.1.2)⟩, ⟨by repeat (first | (with_reducible first | exact HB.out | apply below_alloc | apply pw_below_drewN | apply below_drew1) | exact HB.out)⟩⟩
                        · rw [if_neg c27] at H
                          have c27b0 : (t153 == 0) = false := beq_eq_false_iff_ne.mpr c27
                          have c27b1 : (t153 != 0) = true := bne_iff_ne.mpr c27
                          by_cases c36 : t157 = (wrap64 (t152 + (x6_2.size : Int)))
                          · rw [if_pos c36] at H
                            have c36b0 : (t157 == (wrap64 (t152 + (x6_2.size : Int)))) = true := beq_iff_eq.mpr c36
                            have c36b1 : (t157 != (wrap64 (t152 + (x6_2.size : Int)))) = false := bne_eq_false_iff_eq.mpr c36
                            clear c36
                            have H' := Aside0.mk H
                            clear H
                            obtain ⟨Ao37, co37, eo37⟩ := Kd.R_slice HO155.out
                            subst eo37
                            obtain ⟨Ao38, co38, eo38⟩ := Kd.R_slice HO160.out
                            subst eo38
                            go_wp2
                            go_meet
                            case rel => exact ⟨_, (((t151.length : Int) != (t156.length : Int))), (by first | rfl | (simp; done) | (simp [*]; done)), H', ⟨by have := HJ3.out; have := HK2.out; first | omega | exact Nat.le_refl _⟩, ⟨by (with_reducible repeat (first | apply Kd.R_alloc | apply Kd.R_drewN | apply Kd.R_drew)); exact Kd.R_mono HO155.out (fun _ hk => hk.1.2)⟩, ⟨by (with_reducible repeat (first | apply Kd.R_alloc | apply Kd.R_drewN | apply Kd.R_drew)); exact Kd.R_mono HO160.out (fun _ hk => hk.1.2)⟩, ⟨by repeat (first | (with_reducible first | exact HB.out | apply below_alloc | apply pw_below_drewN | apply below_drew1) | exact HB.out)⟩⟩
                          · rw [if_neg c36] at H
                            have c36b0 : (t157 == (wrap64 (t152 + (x6_2.size : Int)))) = false := beq_eq_false_iff_ne.mpr c36
                            have c36b1 : (t157 != (wrap64 (t152 + (x6_2.size : Int)))) = true := bne_iff_ne.mpr c36
                            have H' := Aside0.mk H
                            clear H
                            go_wp2
                            go_meet
                            case rel => exact ⟨_, (true), (by first | rfl | (simp; done) | (simp [*]; done)), H', ⟨by have := HJ3.out; have := HK2.out; first | omega | exact Nat.le_refl _⟩, ⟨by (with_reducible repeat (first | apply Kd.R_alloc | apply Kd.R_drewN | apply Kd.R_drew)); exact Kd.R_mono HO155.out (fun _ hk => hk.1.2)⟩, ⟨by (with_reducible repeat (first | apply Kd.R_alloc | apply Kd.R_drewN | apply Kd.R_drew)); exact Kd.R_mono HO160.out (fun _ hk => hk.1.2)⟩, ⟨by repeat (first | (with_reducible first | exact HB.out | apply below_alloc | apply pw_below_drewN | apply below_drew1) | exact HB.out)⟩⟩
                      · rw [if_neg c26] at H
                        have c26b0 : (t153 == t158) = false := beq_eq_false_iff_ne.mpr c26
                        have c26b1 : (t153 != t158) = true := bne_iff_ne.mpr c26
                        (first | rw [c26b0] | (simp only [i64_w, i32_w]; rw [c26b0]) | skip)
                        have H' := Aside0.mk H
                        clear H
                        go_wp2
                        go_meet
                        case rel => exact ⟨_, (true), (by first | rfl | (simp; done) | (simp [*]; done)), H', ⟨by have := HJ3.out; have := HK2.out; first | omega | exact Nat.le_refl _⟩, ⟨by (with_reducible repeat (first | apply Kd.R_alloc | apply Kd.R_drewN | apply Kd.R_drew)); exact Kd.R_mono HO155.out (fun _ hk => hk.1.2)⟩, ⟨by (with_reducible repeat (first | apply Kd.R_alloc | apply Kd.R_drewN | apply Kd.R_drew)); exact Kd.R_mono HO160.out (fun _ hk => hk.1.2)⟩, ⟨by repeat (first | (with_reducible first | exact HB.out | apply below_alloc | apply pw_below_drewN | apply below_drew1) | exact HB.out)⟩⟩
                    case rest =>
                      clear HC22
                      try clear c1
                      try clear c2
                      try clear p2
                      try clear c3
                      try clear c6
                      try clear p6
                      try clear c7
                      try clear c7b0
                      try clear c7b1
                      try clear c8
                      try clear c8b0
                      try clear c9
                      try clear c10
                      try clear c10b0
                      try clear c12
                      try clear c12b0
                      try clear c12b1
                      try clear c13
                      try clear c13b0
                      try clear c13b1
                      try clear c14
                      try clear c14b0
                      try clear c14b1
                      try clear c15
                      try clear c15b0
                      try clear c15b1
                      try clear c15b2
                      try clear c16
                      try clear c17
                      try clear c17b0
                      try clear c17b1
                      try clear c17b2
                      try clear c19
                      try clear c19b0
                      try clear c19b1
                      try clear c19b2
                      try clear c20
                      try clear c20b0
                      try clear c20b1
                      try clear c20b2
                      try clear c26
                      try clear c26b0
                      try clear c26b1
                      try clear c27
                      try clear c27b0
                      try clear c27b1
                      try clear c28
                      try clear c28b0
                      try clear c28b1
                      try clear c30
                      try clear c36
                      try clear c36b0
                      try clear c36b1
                      try clear p2
                      obtain ⟨kq, x106_21, rfl, HA, HJ21, HO_8, HO_11, HB⟩ := hcut
                      cases kq with
                      | zero => exact absurd HA.out (by simp [trufflelaw06_TokenBlanks.j2])
                      | succ kj21 =>
                        have H := HA.out
                        clear HA
                        simp only [trufflelaw06_TokenBlanks.j2] at H
                        by_cases c39 : x106_21 = true
                        · subst c39
                          have H1 : (some false) = some r := by rw [if_pos rfl] at H; exact H
                          clear H
                          have H := H1
                          clear H1
                          obtain rfl := Option.some.inj H
                          go_wp2
                          go_ret
                          exact ⟨by first | rfl | (simp [errW_none, errW_some] <;> rfl) | (simp [*, errW_none, errW_some] <;> rfl), by repeat (first | (with_reducible first | exact HB.out | apply below_alloc | apply pw_below_drewN | apply below_drew1) | exact HB.out)⟩
                        · replace c39 := Bool.eq_false_iff.mpr c39
                          subst c39
                          have H1 : (trufflelaw06_TokenBlanks.l1 kj21 x6_2 t151 t156 0) = some r := by rw [if_neg (show ¬ (false = true) by decide)] at H; exact H
                          clear H
                          have H := H1
                          clear H1
                          have H' := Aside0.mk H
                          clear H
                          go_wp2
                          go_loopg [17] kj21 (fun kq v17 w' => ∃ (x11_4 : List (S29)) (x17_4 : Int), v17 = .int .i64 x17_4 ∧ Aside0 (trufflelaw06_TokenBlanks.l1 kq x6_2 t151 x11_4 x17_4 = some r) ∧ Aside0 (kq ≤ kj21) ∧ Aside0 (Kd.R k29 29 w' w.heap.size (fun k_ => some k_ ≠ (v159 : Value).ownBlock) v154 t151) ∧ Aside0 (Kd.R k29 29 w' w.heap.size (fun k_ => some k_ ≠ (v154 : Value).ownBlock) v159 x11_4) ∧ Aside0 (Below w.heap.size w w'))
                          case atStart => exact ⟨(t156), (0), (by first | rfl | (simp; done) | (simp [*]; done)), H', ⟨Nat.le_refl _⟩, ⟨by (with_reducible repeat (first | apply Kd.R_alloc | apply Kd.R_drewN | apply Kd.R_drew)); exact HO_8.out⟩, ⟨by (with_reducible repeat (first | apply Kd.R_alloc | apply Kd.R_drewN | apply Kd.R_drew)); exact HO_11.out⟩, ⟨by repeat (first | (with_reducible first | exact HB.out | apply below_alloc | apply pw_below_drewN | apply below_drew1) | exact HB.out)⟩⟩
                          case round =>
                            clear H'
                            try clear c1
                            try clear c2
                            try clear p2
                            try clear c3
                            try clear c6
                            try clear p6
                            try clear c7
                            try clear c7b0
                            try clear c7b1
                            try clear c8
                            try clear c8b0
                            try clear c9
                            try clear c10
                            try clear c10b0
                            try clear c12
                            try clear c12b0
                            try clear c12b1
                            try clear c13
                            try clear c13b0
                            try clear c13b1
                            try clear c14
                            try clear c14b0
                            try clear c14b1
                            try clear c15
                            try clear c15b0
                            try clear c15b1
                            try clear c15b2
                            try clear c16
                            try clear c17
                            try clear c17b0
                            try clear c17b1
                            try clear c17b2
                            try clear c19
                            try clear c19b0
                            try clear c19b1
                            try clear c19b2
                            try clear c20
                            try clear c20b0
                            try clear c20b1
                            try clear c20b2
                            try clear c26
                            try clear c26b0
                            try clear c26b1
                            try clear c27
                            try clear c27b0
                            try clear c27b1
                            try clear c28
                            try clear c28b0
                            try clear c28b1
                            try clear c30
                            try clear c36
                            try clear c36b0
                            try clear c36b1
                            try clear c39
                            try clear p2
                            try clear p6
                            obtain ⟨x11_4, x17_4, rfl, HA, HK4, HO_8, HO_11, HB⟩ := hrel
                            cases gk with
                            | zero => exact absurd HA.out (by simp [trufflelaw06_TokenBlanks.l1])
                            | succ k4 =>
                              have H := HA.out
                              clear HA
                              simp only [trufflelaw06_TokenBlanks.l1] at H
                              by_cases c40 : x17_4 < (t151.length : Int)
                              · rw [if_pos c40] at H
                                have c40b0 : decide (x17_4 < (t151.length : Int)) = true := decide_eq_true c40
                                clear c40
                                by_cases c41 : 0 ≤ x17_4
                                · rw [if_pos c41] at H
                                  have c41b0 : decide (0 ≤ x17_4) = true := decide_eq_true c41
                                  clear c41
                                  by_cases c42 : x17_4 < (x11_4.length : Int)
                                  · rw [if_pos c42] at H
                                    have c42b0 : decide (x17_4 < (x11_4.length : Int)) = true := decide_eq_true c42
                                    clear c42
                                    obtain ⟨y168, hy168⟩ : ∃ y_ : List (S29), y_ = (x11_4.set (x17_4 : Int).toNat (⟨(rd_T29 x11_4 x17_4).f0, (rd_T29 x11_4 x17_4).f1, (rd_T29 x11_4 x17_4).f2, wrap64 (((rd_T29 x11_4 x17_4).f3) - (x6_2.size : Int))⟩ : S29)) := ⟨_, rfl⟩
                                    replace H : (trufflelaw06_TokenBlanks.l1 k4 x6_2 t151 y168 (wrap64 (x17_4 + 1))) = some r := by first | (rw [hy168]; with_reducible exact H) | (have H2_ := (Option.bind_some _ _).symm.trans H; rw [hy168]; with_reducible exact H2_) | (have H2_ := (Option.bind_some _ _).symm.trans H; with_reducible exact H2_) | with_reducible exact H | (rw [hy168]; exact H) | exact H
                                    have Ny168 := Aside0.mk hy168
                                    clear hy168
                                    have H' := Aside0.mk H
                                    clear H
                                    obtain ⟨Ao44, co44, eo44⟩ := Kd.R_slice HO_8.out
                                    subst eo44
                                    obtain ⟨Ao45, co45, eo45⟩ := Kd.R_slice HO_11.out
                                    subst eo45
                                    have p167 : 0 ≤ (x17_4 : Int) := of_decide_eq_true (by first | (with_reducible assumption) | assumption)
                                    have q167 : x17_4 < (x11_4.length : Int) := of_decide_eq_true (by first | (with_reducible assumption) | assumption)
                                    obtain ⟨ad167, e167, hx167_0, hx167_1, hx167_2, hx167_3⟩ := at_T29 (Kd.R_reads' HO_11.out).2.2 x17_4 p167 q167
                                    cases e167
                                    replace p167 := eq_true p167
                                    replace q167 := eq_true q167
                                    have p43 : 0 ≤ (x17_4 : Int) := of_decide_eq_true (by first | (with_reducible assumption) | assumption)
                                    have q43 : (x17_4 : Int) < ((x11_4.length : Int) : Int) := of_decide_eq_true (by first | (with_reducible assumption) | assumption)
                                    obtain ⟨go43, co43, eo43, gb43, gl43, cl43, HG43⟩ := Kd.R_form HO_11.out (by omega)
                                    (first | cases eo43 | (injection eo43 with ea_ en_ ec_; (first | subst ea_ | (injection ea_ with ea_; subst ea_)); subst ec_; clear en_))
                                    have GB43 := Aside0.mk gb43
                                    have GG43 := Aside0.mk HG43
                                    clear gb43 gl43 HG43
                                    (first | simp only [add_plain] at hx167_0 | skip)
                                    (first | simp only [add_plain] at hx167_1 | skip)
                                    (first | simp only [add_plain] at hx167_2 | skip)
                                    (first | simp only [add_plain] at hx167_3 | skip)
                                    obtain ⟨ce43, hcl43, hM43, hcc43, hfr43⟩ := Kd.R_elem HO_11.out z29 (x17_4 : Int) p43 q43
                                    obtain rfl := k29_openM hM43
                                    have hx43_0 : wr.cell? ⟨go43, (x17_4 : Int).toNat * 4, none⟩ = some (.int .i64 ((rd_T29 x11_4 x17_4).f0)) := hcc43 0 _ rfl
                                    have hx43_1 : wr.cell? ⟨go43, (x17_4 : Int).toNat * 4 + 1, none⟩ = some (.string ((rd_T29 x11_4 x17_4).f1)) := hcc43 1 _ rfl
                                    have hx43_2 : wr.cell? ⟨go43, (x17_4 : Int).toNat * 4 + 2, none⟩ = some (.int .i64 ((rd_T29 x11_4 x17_4).f2)) := hcc43 2 _ rfl
                                    have hx43_3 : wr.cell? ⟨go43, (x17_4 : Int).toNat * 4 + 3, none⟩ = some (.int .i64 ((rd_T29 x11_4 x17_4).f3)) := hcc43 3 _ rfl
                                    have hf43_0 : wr.frozen? ⟨go43, (x17_4 : Int).toNat * 4, none⟩ = false := hfr43 0
                                    have hf43_1 : wr.frozen? ⟨go43, (x17_4 : Int).toNat * 4 + 1, none⟩ = false := hfr43 1
                                    have hf43_2 : wr.frozen? ⟨go43, (x17_4 : Int).toNat * 4 + 2, none⟩ = false := hfr43 2
                                    have hf43_3 : wr.frozen? ⟨go43, (x17_4 : Int).toNat * 4 + 3, none⟩ = false := hfr43 3
                                    clear hcl43 hcc43 hfr43 hM43
                                    replace p43 := eq_true p43
                                    replace q43 := eq_true q43
                                    have HX46 := Aside0.mk (show Kd.R k29 29 wr w.heap.size (fun k_ => some k_ ≠ (.slice Ao44 t151.length co44 : Value).ownBlock) (.slice (some ⟨go43, 0, none⟩) x11_4.length co45) x11_4 from (by (with_reducible repeat (first | apply Kd.R_alloc | apply Kd.R_drewN | apply Kd.R_drew)); exact HO_11.out))
                                    obtain ⟨ce46, hcl46, hM46, hcc46, hfr46⟩ := Kd.R_elem HX46.out z29 (x17_4 : Int) (of_decide_eq_true (by first | (with_reducible assumption) | assumption)) (by have h_ : (x17_4 : Int) < ((x11_4.length : Int) : Int) := of_decide_eq_true (by first | (with_reducible assumption) | assumption); first | exact h_ | (have e_ := (Kd.R_reads' HO_11.out).1; omega) | simpa using h_)
                                    obtain rfl := k29_openM hM46
                                    have HP46 := Kd.R_seg HX46.out (x17_4 : Int) (of_decide_eq_true (by first | (with_reducible assumption) | assumption)) (by have h_ : (x17_4 : Int) < ((x11_4.length : Int) : Int) := of_decide_eq_true (by first | (with_reducible assumption) | assumption); first | exact h_ | (have e_ := (Kd.R_reads' HO_11.out).1; omega) | simpa using h_) (seg := [.int .i64 (wrap64 (((rd_T29 x11_4 x17_4).f3) - (x6_2.size : Int)))]) (j := 3) hcl46 hcc46 (show 4 ≤ 4 from by decide) (x' := (⟨(rd_T29 x11_4 x17_4).f0, (rd_T29 x11_4 x17_4).f1, (rd_T29 x11_4 x17_4).f2, wrap64 (((rd_T29 x11_4 x17_4).f3) - (x6_2.size : Int))⟩ : S29)) (k29_mkM _ _ _ (⟨(rd_T29 x11_4 x17_4).f0, (rd_T29 x11_4 x17_4).f1, (rd_T29 x11_4 x17_4).f2, wrap64 (((rd_T29 x11_4 x17_4).f3) - (x6_2.size : Int))⟩ : S29) ) (fun _ hk => hk)
                                    have hx46_3 := hcc46 3 _ rfl
                                    (try simp only [show (k29).sz = 4 from rfl, Nat.mul_one, Nat.add_zero] at hx46_3)
                                    have hf46_3 := hfr46 3
                                    (try simp only [show (k29).sz = 4 from rfl, Nat.mul_one, Nat.add_zero] at hf46_3)
                                    clear hcl46 hcc46 hfr46 hM46
                                    go_wp2_with (first | ((with_reducible refine gate_store (t := 3) (p := 124) rfl ?_); refine store_event (t := 3) (p := 124) (v := ?vo_w47) (w1 := (wr.setCell ⟨go43, (x17_4 : Int).toNat * 4 + 3, none⟩ (.int .i64 (wrap64 (((rd_T29 x11_4 x17_4).f3) - (x6_2.size : Int)))))) ?hg ?ho ?hn ?hr ?_; (case ho => rfl); (case hg => rfl); (case hn => rfl); (case hr => first | (go_simp; done) | (go_simp; rfl)); intro w47 hw; have hg : wr.grownBy w47 (some go43) := (by rw [hw]; exact HP46.2); have hp_ : Kd.R k29 29 w47 w.heap.size (fun k_ => some k_ ≠ (.slice Ao44 t151.length co44 : Value).ownBlock) (.slice (some ⟨go43, 0, none⟩) x11_4.length co45) y168 := (by rw [hw, Ny168.out]; exact HP46.1); clear HP46; have n0_ := Aside0.mk (Kd.R_after (v := (.slice (some ⟨go43, 0, none⟩) x11_4.length co45)) (v1 := (.slice (some ⟨go43, 0, none⟩) x11_4.length co45)) (ok := (fun _ => True)) (by (with_reducible repeat (first | apply Kd.R_alloc | apply Kd.R_drewN | apply Kd.R_drew)); exact Kd.R_mono HO_8.out (fun _ hk => ⟨trivial, hk⟩)) hg (.inl rfl)); have n1_ := Aside0.mk (hp_); have n2_ := Aside0.mk ((by rw [hw]; exact below_set (HB.out) GB43.out : Below w.heap.size w w47)); clear HO_8; clear HO_11; clear HB; have HO_8 := n0_; have HO_11 := n1_; have HB := n2_; clear n0_ n1_ n2_; clear hg hw hp_))
                                    go_roundg k4
                                    case measure => have := HJ3.out; have := HK2.out; have := HJ21.out; have := HK4.out; omega
                                    case rel => exact ⟨(y168), (wrap64 (x17_4 + 1)), (by first | rfl | (simp; done) | (simp [*]; done)), H', ⟨by have := HJ3.out; have := HK2.out; have := HJ21.out; have := HK4.out; omega⟩, ⟨by (with_reducible repeat (first | apply Kd.R_alloc | apply Kd.R_drewN | apply Kd.R_drew)); exact Kd.R_mono HO_8.out (fun _ hk => hk.2)⟩, ⟨by (with_reducible repeat (first | apply Kd.R_alloc | apply Kd.R_drewN | apply Kd.R_drew)); exact HO_11.out⟩, ⟨by repeat (first | (with_reducible first | exact HB.out | apply below_alloc | apply pw_below_drewN | apply below_drew1) | exact HB.out)⟩⟩
                                  · rw [if_neg c42] at H
                                    exact absurd H (by simp)
                                · rw [if_neg c41] at H
                                  exact absurd H (by simp)
                              · rw [if_neg c40] at H
                                have c40b0 : decide (x17_4 < (t151.length : Int)) = false := decide_eq_false c40
                                clear c40
                                replace H := Option.bind_eq_some_iff.mp H
                                obtain ⟨t169, A480, H⟩ := H
                                replace H : (some t169) = some r := H
                                have A48 := Aside0.mk A480
                                clear A480
                                obtain rfl := Option.some.inj H
                                obtain ⟨Ao49, co49, eo49⟩ := Kd.R_slice HO_8.out
                                subst eo49
                                obtain ⟨Ao50, co50, eo50⟩ := Kd.R_slice HO_11.out
                                subst eo50
                                go_wp2_with (first | ((with_reducible refine gate_callee (f := 17) rfl ?_); refine goesL_ (some 127) rfl rfl Tryd.func17 (by kernel_rfl) rfl #[.slice Ao49 t151.length co49, .slice Ao50 x11_4.length co50] rfl (by (try simp only [List.map_toArray, List.map_cons, List.map_nil]); first | done | rfl | (simp only [List.length_drop, List.length_take]; rfl)) ?_; (with_reducible refine (truffleref06_Same.calls k4 _ _ t151 _ _ x11_4 t169 _ ?side1 ?side2 ?side3 ?side4 A48.out).mono ?_); (case side1 => repeat (first | exact (Kd.R_reads' HO_8.out).2.2 | (with_reducible refine Kd.C_alloc ?_ _) | (with_reducible refine Kd.C_drewN ?_ _) | (with_reducible refine Kd.C_drew ?_))); (case side2 => exact (Kd.R_reads' HO_8.out).2.1); (case side3 => repeat (first | exact (Kd.R_reads' HO_11.out).2.2 | (with_reducible refine Kd.C_alloc ?_ _) | (with_reducible refine Kd.C_drewN ?_ _) | (with_reducible refine Kd.C_drew ?_))); (case side4 => exact (Kd.R_reads' HO_11.out).2.1); rintro e w' ⟨rfl, ⟨nd, rfl⟩⟩; refine ⟨_, rfl, ?_⟩))
                                go_ret
                                exact ⟨by first | rfl | (simp [errW_none, errW_some] <;> rfl) | (simp [*, errW_none, errW_some] <;> rfl), by repeat (first | (with_reducible first | exact HB.out | apply below_alloc | apply pw_below_drewN | apply below_drew1) | exact HB.out)⟩
                  · rw [if_neg c20] at H
                    exact absurd H (by simp)
                · rw [if_neg c19] at H
                  exact absurd H (by simp)
              · rw [if_neg c17] at H
                exact absurd H (by simp)

/-- THE ONE PURE STATEMENT of trufflelaw06_TokenBlanks: yours. -/
def trufflelaw06_TokenBlanks.Pure : Prop := ∀ (a0 : ByteArray) (a1 : Int), a0.size ≤ 140737488351232 → (Lit.int .i64 a1).wf = true → ∃ k, trufflelaw06_TokenBlanks.f k a0 a1 = some true
theorem trufflelaw06_TokenBlanks.walk (P : trufflelaw06_TokenBlanks.Pure) (a0 : ByteArray) (a1 : Int) (w : World) (w0 : a0.size ≤ 140737488351232) (w1 : (Lit.int .i64 a1).wf = true) (hG : GInv w) :
    Calls Tryd.prog 3 #[.string a0, .int .i64 a1] w fun e w' => e = .returned (.bool true) ∧ Below w.heap.size w w' := by
  obtain ⟨k, h⟩ := P a0 a1 w0 w1
  refine (trufflelaw06_TokenBlanks.calls k a0 a1 true w hG h).mono ?_
  rintro e w' ⟨rfl, hd⟩
  exact ⟨rfl, hd⟩

end Go.Proofs.YtngcojabofkbjaaDoor.P
