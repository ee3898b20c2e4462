/- Part 5 of what the law TokenTells leans on: contracts of the functions that it reaches, and plain lemmas; printed walks and words (by the kit's print, through wip/mp.py) and the session's own texts, one behind the other, what is not used left out (wip/prune.py). -/
import Derived.Lib.ItoaMem
import Derived.Lib.ItoaLen
import Derived.Deep.DeepWitnessRowRef
import Derived.Stop.LaidErr
import Derived.Lib.LaidTab
import Derived.LaidLaws
import Derived.MakeChecks
import Derived.Test.YtngcojabofkbjaaDoorRows
import Derived.Test.YtngcojabofkbjaaDoorMTokenTells1
import Derived.Test.YtngcojabofkbjaaDoorMTokenTells2
import Derived.Test.YtngcojabofkbjaaDoorMTokenTells3
import Derived.Test.YtngcojabofkbjaaDoorMTokenTells4
namespace Go.Proofs.YtngcojabofkbjaaDoor.P
open Go.RowKit Go.Proofs.YtngcojabofkbjaaDoorW.PrintWords Go.Proofs.YtngcojabofkbjaaDoorW.PrintLast Go.Proofs.YtngcojabofkbjaaDoorW.PrintMore
set_option linter.unusedVariables false
set_option linter.unusedSimpArgs false
def trufflelaw06_TokenTells.j0 : Nat → ByteArray → Int → Bool → Bool → Option (Bool)
  | 0, _, _, _, _ => none
  | k + 1, x0, x1, x5, x19 => if x19 = true then (some x5) else ((token_All.f x0).bind fun bt281 => ((truffleref06_All.f k x0).bind fun bt286 => ((truffleref06_Same.f k bt281.1 bt286.1).bind fun t291 => (if t291 = true then (if bt281.2.1 = bt286.2.1 then (if bt281.2.2 = bt286.2.2 then ((token_Quote.f x0).bind fun t292 => ((truffleref06_Quote.f k x0).bind fun t293 => (if t292.toList = t293.toList then ((token_Digits.f x1).bind fun t294 => ((truffleref06_Digits.f k x1).bind fun t295 => (some (t294.toList == t295.toList)))) else (some false)))) else (some false)) else (some false)) else (some false)))))
def trufflelaw06_TokenTells.f (k : Nat) (a0 : ByteArray) (a1 : Int) : Option (Bool) := (trufflelaw06_awake.f).bind fun t280 => (if t280 = true then (trufflelaw06_TokenTells.j0 k a0 a1 t280 (decide ((a0.size : Int) > 6000))) else (trufflelaw06_TokenTells.j0 k a0 a1 t280 true))
set_option maxHeartbeats 8000000 in
set_option maxRecDepth 100000 in
theorem trufflelaw06_TokenTells.calls (k : Nat) (a0 : ByteArray) (a1 : Int) (r : Bool) (w : World) (hG : GInv w) (h : trufflelaw06_TokenTells.f k a0 a1 = some r) :
    Calls Tryd.prog 6 #[.string a0, .int .i64 a1] w fun e w' => e = .returned (.bool r) ∧ Below w.heap.size w w' := by
  have HB := Aside0.mk (Below.refl w.heap.size w)
  have H : ((trufflelaw06_awake.f).bind fun t280 => (if t280 = true then (trufflelaw06_TokenTells.j0 k a0 a1 t280 (decide ((a0.size : Int) > 6000))) else (trufflelaw06_TokenTells.j0 k a0 a1 t280 true))) = some r := h
  clear h
  replace H := Option.bind_eq_some_iff.mp H
  obtain ⟨t280, A30, H⟩ := H
  replace H : (if t280 = true then (trufflelaw06_TokenTells.j0 k a0 a1 t280 (decide ((a0.size : Int) > 6000))) else (trufflelaw06_TokenTells.j0 k a0 a1 t280 true)) = some r := H
  have A3 := Aside0.mk A30
  clear A30
  have HC4 := Aside0.mk H
  clear H
  go_enter Tryd.func6, Tryd.ntmps6
  go_upto_region 2 with (first | ((with_reducible refine gate_callee (f := 15) rfl ?_); refine goesL_ (some 12) rfl rfl Tryd.func15 (by kernel_rfl) rfl #[] rfl (by (try simp only [List.map_toArray, List.map_cons, List.map_nil]); first | done | rfl | (simp only [List.length_drop, List.length_take]; rfl)) ?_; (with_reducible refine (trufflelaw06_awake.calls  t280 _ ?side1 A3.out).mono ?_); (case side1 => exact hG.below (by repeat (first | (with_reducible first | exact HB.out | apply below_alloc | apply pw_below_drewN | apply below_drew1) | exact HB.out))); rintro e w5 ⟨rfl, hb⟩; refine ⟨_, rfl, ?_⟩; have n0_ := Aside0.mk (below_step (by repeat (first | (with_reducible first | exact HB.out | apply below_alloc | apply pw_below_drewN | apply below_drew1) | exact HB.out)) hb); clear HB; have HB := n0_; clear n0_; (try clear hb); (try clear hb2); (try clear hk); (try clear hi)))
  (try simp only [Act.put, List.setIfInBounds_toArray, List.set_cons_zero, List.set_cons_succ])
  go_cut [19] (fun v19 wc => ∃ (kq : Nat) (x19_3 : Bool), v19 = .bool x19_3 ∧ Aside0 (trufflelaw06_TokenTells.j0 kq a0 a1 t280 x19_3 = some r) ∧ Aside0 (kq ≤ k) ∧ Aside0 (Below w.heap.size w wc))
  case first =>
    have H := HC4.out
    clear HC4
    by_cases c6 : t280 = true
    · subst c6
      have H1 : (trufflelaw06_TokenTells.j0 k a0 a1 true (decide ((a0.size : Int) > 6000))) = some r := by rw [if_pos rfl] at H; exact H
      clear H
      have H := H1
      clear H1
      have H' := Aside0.mk H
      clear H
      go_wp2
      go_meet
      case rel => exact ⟨_, (decide ((a0.size : Int) > 6000)), (by first | rfl | (simp; done) | (simp [*]; done)), H', ⟨by first | omega | exact Nat.le_refl _⟩, ⟨by repeat (first | (with_reducible first | exact HB.out | apply below_alloc | apply pw_below_drewN | apply below_drew1) | exact HB.out)⟩⟩
    · replace c6 := Bool.eq_false_iff.mpr c6
      subst c6
      have H1 : (trufflelaw06_TokenTells.j0 k a0 a1 false true) = some r := by rw [if_neg (show ¬ (false = true) by decide)] at H; exact H
      clear H
      have H := H1
      clear H1
      have H' := Aside0.mk H
      clear H
      go_wp2
      go_meet
      case rel => exact ⟨_, (true), (by first | rfl | (simp; done) | (simp [*]; done)), H', ⟨by first | omega | exact Nat.le_refl _⟩, ⟨by repeat (first | (with_reducible first | exact HB.out | apply below_alloc | apply pw_below_drewN | apply below_drew1) | exact HB.out)⟩⟩
  case rest =>
    clear HC4
    try clear c1
    try clear p2
    try clear c6
    obtain ⟨kq, x19_3, rfl, HA, HJ3, HB⟩ := hcut
    cases kq with
    | zero => exact absurd HA.out (by simp [trufflelaw06_TokenTells.j0])
    | succ kj3 =>
      have H := HA.out
      clear HA
      simp only [trufflelaw06_TokenTells.j0] at H
      by_cases c7 : x19_3 = true
      · subst c7
        have H1 : (some t280) = some r := by rw [if_pos rfl] at H; exact H
        clear H
        have H := H1
        clear H1
        obtain rfl := Option.some.inj H
        go_wp2
        go_ret
        exact ⟨by first | rfl | (simp [] <;> rfl) | (simp [*] <;> rfl), by repeat (first | (with_reducible first | exact HB.out | apply below_alloc | apply pw_below_drewN | apply below_drew1) | exact HB.out)⟩
      · replace c7 := Bool.eq_false_iff.mpr c7
        subst c7
        have H1 : ((token_All.f a0).bind fun bt281 => ((truffleref06_All.f kj3 a0).bind fun bt286 => ((truffleref06_Same.f kj3 bt281.1 bt286.1).bind fun t291 => (if t291 = true then (if bt281.2.1 = bt286.2.1 then (if bt281.2.2 = bt286.2.2 then ((token_Quote.f a0).bind fun t292 => ((truffleref06_Quote.f kj3 a0).bind fun t293 => (if t292.toList = t293.toList then ((token_Digits.f a1).bind fun t294 => ((truffleref06_Digits.f kj3 a1).bind fun t295 => (some (t294.toList == t295.toList)))) else (some false)))) else (some false)) else (some false)) else (some false))))) = some r := by rw [if_neg (show ¬ (false = true) by decide)] at H; exact H
        clear H
        have H := H1
        clear H1
        replace H := Option.bind_eq_some_iff.mp H
        obtain ⟨⟨t281, t282, t283⟩, A80, H⟩ := H
        replace H : ((truffleref06_All.f kj3 a0).bind fun bt286 => ((truffleref06_Same.f kj3 t281 bt286.1).bind fun t291 => (if t291 = true then (if t282 = bt286.2.1 then (if t283 = bt286.2.2 then ((token_Quote.f a0).bind fun t292 => ((truffleref06_Quote.f kj3 a0).bind fun t293 => (if t292.toList = t293.toList then ((token_Digits.f a1).bind fun t294 => ((truffleref06_Digits.f kj3 a1).bind fun t295 => (some (t294.toList == t295.toList)))) else (some false)))) else (some false)) else (some false)) else (some false)))) = some r := H
        have A8 := Aside0.mk A80
        clear A80
        replace H := Option.bind_eq_some_iff.mp H
        obtain ⟨⟨t286, t287, t288⟩, A90, H⟩ := H
        replace H : ((truffleref06_Same.f kj3 t281 t286).bind fun t291 => (if t291 = true then (if t282 = t287 then (if t283 = t288 then ((token_Quote.f a0).bind fun t292 => ((truffleref06_Quote.f kj3 a0).bind fun t293 => (if t292.toList = t293.toList then ((token_Digits.f a1).bind fun t294 => ((truffleref06_Digits.f kj3 a1).bind fun t295 => (some (t294.toList == t295.toList)))) else (some false)))) else (some false)) else (some false)) else (some false))) = some r := H
        have A9 := Aside0.mk A90
        clear A90
        replace H := Option.bind_eq_some_iff.mp H
        obtain ⟨t291, A100, H⟩ := H
        replace H : (if t291 = true then (if t282 = t287 then (if t283 = t288 then ((token_Quote.f a0).bind fun t292 => ((truffleref06_Quote.f kj3 a0).bind fun t293 => (if t292.toList = t293.toList then ((token_Digits.f a1).bind fun t294 => ((truffleref06_Digits.f kj3 a1).bind fun t295 => (some (t294.toList == t295.toList)))) else (some false)))) else (some false)) else (some false)) else (some false)) = some r := H
        have A10 := Aside0.mk A100
        clear A100
        by_cases c11 : t291 = true
        · subst c11
          have H1 : (if t282 = t287 then (if t283 = t288 then ((token_Quote.f a0).bind fun t292 => ((truffleref06_Quote.f kj3 a0).bind fun t293 => (if t292.toList = t293.toList then ((token_Digits.f a1).bind fun t294 => ((truffleref06_Digits.f kj3 a1).bind fun t295 => (some (t294.toList == t295.toList)))) else (some false)))) else (some false)) else (some false)) = some r := by rw [if_pos rfl] at H; exact H
          clear H
          have H := H1
          clear H1
          by_cases c12 : t282 = t287
          · rw [if_pos c12] at H
            have c12b0 : (t282 == t287) = true := beq_iff_eq.mpr c12
            have c12b1 : (t282 != t287) = false := bne_eq_false_iff_eq.mpr c12
            clear c12
            by_cases c13 : t283 = t288
            · rw [if_pos c13] at H
              have c13b0 : (t283 == t288) = true := beq_iff_eq.mpr c13
              have c13b1 : (t283 != t288) = false := bne_eq_false_iff_eq.mpr c13
              clear c13
              replace H := Option.bind_eq_some_iff.mp H
              obtain ⟨t292, A140, H⟩ := H
              replace H : ((truffleref06_Quote.f kj3 a0).bind fun t293 => (if t292.toList = t293.toList then ((token_Digits.f a1).bind fun t294 => ((truffleref06_Digits.f kj3 a1).bind fun t295 => (some (t294.toList == t295.toList)))) else (some false))) = some r := H
              have A14 := Aside0.mk A140
              clear A140
              replace H := Option.bind_eq_some_iff.mp H
              obtain ⟨t293, A150, H⟩ := H
              replace H : (if t292.toList = t293.toList then ((token_Digits.f a1).bind fun t294 => ((truffleref06_Digits.f kj3 a1).bind fun t295 => (some (t294.toList == t295.toList)))) else (some false)) = some r := H
              have A15 := Aside0.mk A150
              clear A150
              by_cases c16 : t292.toList = t293.toList
              · rw [if_pos c16] at H
                have c16b0 : (t292.toList == t293.toList) = true := beq_iff_eq.mpr c16
                have c16b1 : (t292.toList != t293.toList) = false := bne_eq_false_iff_eq.mpr c16
                clear c16
                replace H := Option.bind_eq_some_iff.mp H
                obtain ⟨t294, A170, H⟩ := H
                replace H : ((truffleref06_Digits.f kj3 a1).bind fun t295 => (some (t294.toList == t295.toList))) = some r := H
                have A17 := Aside0.mk A170
                clear A170
                replace H := Option.bind_eq_some_iff.mp H
                obtain ⟨t295, A180, H⟩ := H
                replace H : (some (t294.toList == t295.toList)) = some r := H
                have A18 := Aside0.mk A180
                clear A180
                obtain rfl := Option.some.inj H
                go_wp2_with (first | ((with_reducible refine gate_callee (f := 16) rfl ?_); refine goesL_ (some 23) rfl rfl Tryd.func16 (by kernel_rfl) rfl #[.string a0] rfl (by (try simp only [List.map_toArray, List.map_cons, List.map_nil]); first | done | rfl | (simp only [List.length_drop, List.length_take]; rfl)) ?_; (with_reducible refine (token_All.calls a0 t281 t282 t283 _ ?side1 A8.out).mono ?_); (case side1 => exact hG.below (by repeat (first | (with_reducible first | exact HB.out | apply below_alloc | apply pw_below_drewN | apply below_drew1) | exact HB.out))); rintro e w19 ⟨v284, rfl, ho0, hb⟩; refine ⟨_, rfl, ?_⟩; have n0_ := Aside0.mk (Kd.R_lower ho0 (below_size (by repeat (first | (with_reducible first | exact HB.out | apply below_alloc | apply pw_below_drewN | apply below_drew1) | exact HB.out)))); have n1_ := Aside0.mk (below_step (by repeat (first | (with_reducible first | exact HB.out | apply below_alloc | apply pw_below_drewN | apply below_drew1) | exact HB.out)) hb); clear HB; have HO285 := n0_; have HB := n1_; clear n0_ n1_; (try clear hb); (try clear hb2); (try clear hk); (try clear hi); (try clear ho0)) | ((with_reducible refine gate_callee (f := 18) rfl ?_); refine goesL_ (some 29) rfl rfl Tryd.func18 (by kernel_rfl) rfl #[.string a0] rfl (by (try simp only [List.map_toArray, List.map_cons, List.map_nil]); first | done | rfl | (simp only [List.length_drop, List.length_take]; rfl)) ?_; (with_reducible refine (truffleref06_All.calls kj3 a0 t286 t287 t288 _ A9.out).mono ?_); rintro e w20 ⟨v289, rfl, ho0, hb⟩; refine ⟨_, rfl, ?_⟩; have n0_ := Aside0.mk (Kd.R_elder' (by (with_reducible repeat (first | apply Kd.R_alloc | apply Kd.R_drewN | apply Kd.R_drew)); exact HO285.out) (Kd.R_base ho0) hb); have n1_ := Aside0.mk (Kd.R_lower (Kd.R_new' ho0 (Kd.R_lt (by (with_reducible repeat (first | apply Kd.R_alloc | apply Kd.R_drewN | apply Kd.R_drew)); exact HO285.out))) (below_size (by repeat (first | (with_reducible first | exact HB.out | apply below_alloc | apply pw_below_drewN | apply below_drew1) | exact HB.out)))); have n2_ := Aside0.mk (below_step (by repeat (first | (with_reducible first | exact HB.out | apply below_alloc | apply pw_below_drewN | apply below_drew1) | exact HB.out)) hb); clear HO285; clear HB; have HO285 := n0_; have HO290 := n1_; have HB := n2_; clear n0_ n1_ n2_; (try clear hb); (try clear hb2); (try clear hk); (try clear hi); (try clear ho0); obtain ⟨Ao21, co21, eo21⟩ := Kd.R_slice HO285.out; subst eo21; obtain ⟨Ao22, co22, eo22⟩ := Kd.R_slice HO290.out; subst eo22) | ((with_reducible refine gate_callee (f := 17) rfl ?_); refine goesL_ (some 35) rfl rfl Tryd.func17 (by kernel_rfl) rfl #[.slice Ao21 t281.length co21, .slice Ao22 t286.length co22] rfl (by (try simp only [List.map_toArray, List.map_cons, List.map_nil]); first | done | rfl | (simp only [List.length_drop, List.length_take]; rfl)) ?_; (with_reducible refine (truffleref06_Same.calls kj3 _ _ t281 _ _ t286 true _ ?side1 ?side2 ?side3 ?side4 A10.out).mono ?_); (case side1 => repeat (first | exact (Kd.R_reads' HO285.out).2.2 | (with_reducible refine Kd.C_alloc ?_ _) | (with_reducible refine Kd.C_drewN ?_ _) | (with_reducible refine Kd.C_drew ?_))); (case side2 => exact (Kd.R_reads' HO285.out).2.1); (case side3 => repeat (first | exact (Kd.R_reads' HO290.out).2.2 | (with_reducible refine Kd.C_alloc ?_ _) | (with_reducible refine Kd.C_drewN ?_ _) | (with_reducible refine Kd.C_drew ?_))); (case side4 => exact (Kd.R_reads' HO290.out).2.1); rintro e w' ⟨rfl, ⟨nd, rfl⟩⟩; refine ⟨_, rfl, ?_⟩) | (go_at_call 19; (with_reducible refine (token_Quote.calls a0 t292 _ A14.out).mono ?_); rintro e w23 ⟨rfl, hb⟩; have n0_ := Aside0.mk (Kd.R_below (by (with_reducible repeat (first | apply Kd.R_alloc | apply Kd.R_drewN | apply Kd.R_drew)); exact HO285.out) hb); have n1_ := Aside0.mk (Kd.R_below (by (with_reducible repeat (first | apply Kd.R_alloc | apply Kd.R_drewN | apply Kd.R_drew)); exact HO290.out) hb); have n2_ := Aside0.mk (below_step (by repeat (first | (with_reducible first | exact HB.out | apply below_alloc | apply pw_below_drewN | apply below_drew1) | exact HB.out)) hb); clear HO285; clear HO290; clear HB; have HO285 := n0_; have HO290 := n1_; have HB := n2_; clear n0_ n1_ n2_; (try clear hb); (try clear hb2); (try clear hk); (try clear hi)) | (go_at_call 20; (with_reducible refine (truffleref06_Quote.calls kj3 a0 t293 _ A15.out).mono ?_); rintro e w24 ⟨rfl, hb⟩; have n0_ := Aside0.mk (Kd.R_below (by (with_reducible repeat (first | apply Kd.R_alloc | apply Kd.R_drewN | apply Kd.R_drew)); exact HO285.out) hb); have n1_ := Aside0.mk (Kd.R_below (by (with_reducible repeat (first | apply Kd.R_alloc | apply Kd.R_drewN | apply Kd.R_drew)); exact HO290.out) hb); have n2_ := Aside0.mk (below_step (by repeat (first | (with_reducible first | exact HB.out | apply below_alloc | apply pw_below_drewN | apply below_drew1) | exact HB.out)) hb); clear HO285; clear HO290; clear HB; have HO285 := n0_; have HO290 := n1_; have HB := n2_; clear n0_ n1_ n2_; (try clear hb); (try clear hb2); (try clear hk); (try clear hi)) | (go_at_call 21; (with_reducible refine (token_Digits.calls a1 t294 _ ?side1 A17.out).mono ?_); (case side1 => exact hG.below (by repeat (first | (with_reducible first | exact HB.out | apply below_alloc | apply pw_below_drewN | apply below_drew1) | exact HB.out))); rintro e w25 ⟨rfl, hb⟩; have n0_ := Aside0.mk (Kd.R_below (by (with_reducible repeat (first | apply Kd.R_alloc | apply Kd.R_drewN | apply Kd.R_drew)); exact HO285.out) hb); have n1_ := Aside0.mk (Kd.R_below (by (with_reducible repeat (first | apply Kd.R_alloc | apply Kd.R_drewN | apply Kd.R_drew)); exact HO290.out) hb); have n2_ := Aside0.mk (below_step (by repeat (first | (with_reducible first | exact HB.out | apply below_alloc | apply pw_below_drewN | apply below_drew1) | exact HB.out)) hb); clear HO285; clear HO290; clear HB; have HO285 := n0_; have HO290 := n1_; have HB := n2_; clear n0_ n1_ n2_; (try clear hb); (try clear hb2); (try clear hk); (try clear hi)) | (go_at_call 22; (with_reducible refine (truffleref06_Digits.calls kj3 a1 t295 _ A18.out).mono ?_); rintro e w' ⟨rfl, ⟨nd, rfl⟩⟩))
                go_ret
                exact ⟨by first | rfl | (simp [] <;> rfl) | (simp [*] <;> rfl), by repeat (first | (with_reducible first | exact HB.out | apply below_alloc | apply pw_below_drewN | apply below_drew1) | exact HB.out)⟩
              · rw [if_neg c16] at H
                have c16b0 : (t292.toList == t293.toList) = false := beq_eq_false_iff_ne.mpr c16
                have c16b1 : (t292.toList != t293.toList) = true := bne_iff_ne.mpr c16
                obtain rfl := Option.some.inj H
                go_wp2_with (first | ((with_reducible refine gate_callee (f := 16) rfl ?_); refine goesL_ (some 23) rfl rfl Tryd.func16 (by kernel_rfl) rfl #[.string a0] rfl (by (try simp only [List.map_toArray, List.map_cons, List.map_nil]); first | done | rfl | (simp only [List.length_drop, List.length_take]; rfl)) ?_; (with_reducible refine (token_All.calls a0 t281 t282 t283 _ ?side1 A8.out).mono ?_); (case side1 => exact hG.below (by repeat (first | (with_reducible first | exact HB.out | apply below_alloc | apply pw_below_drewN | apply below_drew1) | exact HB.out))); rintro e w26 ⟨v284, rfl, ho0, hb⟩; refine ⟨_, rfl, ?_⟩; have n0_ := Aside0.mk (Kd.R_lower ho0 (below_size (by repeat (first | (with_reducible first | exact HB.out | apply below_alloc | apply pw_below_drewN | apply below_drew1) | exact HB.out)))); have n1_ := Aside0.mk (below_step (by repeat (first | (with_reducible first | exact HB.out | apply below_alloc | apply pw_below_drewN | apply below_drew1) | exact HB.out)) hb); clear HB; have HO285 := n0_; have HB := n1_; clear n0_ n1_; (try clear hb); (try clear hb2); (try clear hk); (try clear hi); (try clear ho0)) | ((with_reducible refine gate_callee (f := 18) rfl ?_); refine goesL_ (some 29) rfl rfl Tryd.func18 (by kernel_rfl) rfl #[.string a0] rfl (by (try simp only [List.map_toArray, List.map_cons, List.map_nil]); first | done | rfl | (simp only [List.length_drop, List.length_take]; rfl)) ?_; (with_reducible refine (truffleref06_All.calls kj3 a0 t286 t287 t288 _ A9.out).mono ?_); rintro e w27 ⟨v289, rfl, ho0, hb⟩; refine ⟨_, rfl, ?_⟩; have n0_ := Aside0.mk (Kd.R_elder' (by (with_reducible repeat (first | apply Kd.R_alloc | apply Kd.R_drewN | apply Kd.R_drew)); exact HO285.out) (Kd.R_base ho0) hb); have n1_ := Aside0.mk (Kd.R_lower (Kd.R_new' ho0 (Kd.R_lt (by (with_reducible repeat (first | apply Kd.R_alloc | apply Kd.R_drewN | apply Kd.R_drew)); exact HO285.out))) (below_size (by repeat (first | (with_reducible first | exact HB.out | apply below_alloc | apply pw_below_drewN | apply below_drew1) | exact HB.out)))); have n2_ := Aside0.mk (below_step (by repeat (first | (with_reducible first | exact HB.out | apply below_alloc | apply pw_below_drewN | apply below_drew1) | exact HB.out)) hb); clear HO285; clear HB; have HO285 := n0_; have HO290 := n1_; have HB := n2_; clear n0_ n1_ n2_; (try clear hb); (try clear hb2); (try clear hk); (try clear hi); (try clear ho0); obtain ⟨Ao28, co28, eo28⟩ := Kd.R_slice HO285.out; subst eo28; obtain ⟨Ao29, co29, eo29⟩ := Kd.R_slice HO290.out; subst eo29) | ((with_reducible refine gate_callee (f := 17) rfl ?_); refine goesL_ (some 35) rfl rfl Tryd.func17 (by kernel_rfl) rfl #[.slice Ao28 t281.length co28, .slice Ao29 t286.length co29] rfl (by (try simp only [List.map_toArray, List.map_cons, List.map_nil]); first | done | rfl | (simp only [List.length_drop, List.length_take]; rfl)) ?_; (with_reducible refine (truffleref06_Same.calls kj3 _ _ t281 _ _ t286 true _ ?side1 ?side2 ?side3 ?side4 A10.out).mono ?_); (case side1 => repeat (first | exact (Kd.R_reads' HO285.out).2.2 | (with_reducible refine Kd.C_alloc ?_ _) | (with_reducible refine Kd.C_drewN ?_ _) | (with_reducible refine Kd.C_drew ?_))); (case side2 => exact (Kd.R_reads' HO285.out).2.1); (case side3 => repeat (first | exact (Kd.R_reads' HO290.out).2.2 | (with_reducible refine Kd.C_alloc ?_ _) | (with_reducible refine Kd.C_drewN ?_ _) | (with_reducible refine Kd.C_drew ?_))); (case side4 => exact (Kd.R_reads' HO290.out).2.1); rintro e w' ⟨rfl, ⟨nd, rfl⟩⟩; refine ⟨_, rfl, ?_⟩) | (go_at_call 19; (with_reducible refine (token_Quote.calls a0 t292 _ A14.out).mono ?_); rintro e w30 ⟨rfl, hb⟩; have n0_ := Aside0.mk (Kd.R_below (by (with_reducible repeat (first | apply Kd.R_alloc | apply Kd.R_drewN | apply Kd.R_drew)); exact HO285.out) hb); have n1_ := Aside0.mk (Kd.R_below (by (with_reducible repeat (first | apply Kd.R_alloc | apply Kd.R_drewN | apply Kd.R_drew)); exact HO290.out) hb); have n2_ := Aside0.mk (below_step (by repeat (first | (with_reducible first | exact HB.out | apply below_alloc | apply pw_below_drewN | apply below_drew1) | exact HB.out)) hb); clear HO285; clear HO290; clear HB; have HO285 := n0_; have HO290 := n1_; have HB := n2_; clear n0_ n1_ n2_; (try clear hb); (try clear hb2); (try clear hk); (try clear hi)) | (go_at_call 20; (with_reducible refine (truffleref06_Quote.calls kj3 a0 t293 _ A15.out).mono ?_); rintro e w31 ⟨rfl, hb⟩; have n0_ := Aside0.mk (Kd.R_below (by (with_reducible repeat (first | apply Kd.R_alloc | apply Kd.R_drewN | apply Kd.R_drew)); exact HO285.out) hb); have n1_ := Aside0.mk (Kd.R_below (by (with_reducible repeat (first | apply Kd.R_alloc | apply Kd.R_drewN | apply Kd.R_drew)); exact HO290.out) hb); have n2_ := Aside0.mk (below_step (by repeat (first | (with_reducible first | exact HB.out | apply below_alloc | apply pw_below_drewN | apply below_drew1) | exact HB.out)) hb); clear HO285; clear HO290; clear HB; have HO285 := n0_; have HO290 := n1_; have HB := n2_; clear n0_ n1_ n2_; (try clear hb); (try clear hb2); (try clear hk); (try clear hi)))
                go_ret
                exact ⟨by first | rfl | (simp [] <;> rfl) | (simp [*] <;> rfl), by repeat (first | (with_reducible first | exact HB.out | apply below_alloc | apply pw_below_drewN | apply below_drew1) | exact HB.out)⟩
            · rw [if_neg c13] at H
              have c13b0 : (t283 == t288) = false := beq_eq_false_iff_ne.mpr c13
              have c13b1 : (t283 != t288) = true := bne_iff_ne.mpr c13
              obtain rfl := Option.some.inj H
              go_wp2_with (first | ((with_reducible refine gate_callee (f := 16) rfl ?_); refine goesL_ (some 23) rfl rfl Tryd.func16 (by kernel_rfl) rfl #[.string a0] rfl (by (try simp only [List.map_toArray, List.map_cons, List.map_nil]); first | done | rfl | (simp only [List.length_drop, List.length_take]; rfl)) ?_; (with_reducible refine (token_All.calls a0 t281 t282 t283 _ ?side1 A8.out).mono ?_); (case side1 => exact hG.below (by repeat (first | (with_reducible first | exact HB.out | apply below_alloc | apply pw_below_drewN | apply below_drew1) | exact HB.out))); rintro e w32 ⟨v284, rfl, ho0, hb⟩; refine ⟨_, rfl, ?_⟩; have n0_ := Aside0.mk (Kd.R_lower ho0 (below_size (by repeat (first | (with_reducible first | exact HB.out | apply below_alloc | apply pw_below_drewN | apply below_drew1) | exact HB.out)))); have n1_ := Aside0.mk (below_step (by repeat (first | (with_reducible first | exact HB.out | apply below_alloc | apply pw_below_drewN | apply below_drew1) | exact HB.out)) hb); clear HB; have HO285 := n0_; have HB := n1_; clear n0_ n1_; (try clear hb); (try clear hb2); (try clear hk); (try clear hi); (try clear ho0)) | ((with_reducible refine gate_callee (f := 18) rfl ?_); refine goesL_ (some 29) rfl rfl Tryd.func18 (by kernel_rfl) rfl #[.string a0] rfl (by (try simp only [List.map_toArray, List.map_cons, List.map_nil]); first | done | rfl | (simp only [List.length_drop, List.length_take]; rfl)) ?_; (with_reducible refine (truffleref06_All.calls kj3 a0 t286 t287 t288 _ A9.out).mono ?_); rintro e w33 ⟨v289, rfl, ho0, hb⟩; refine ⟨_, rfl, ?_⟩; have n0_ := Aside0.mk (Kd.R_elder' (by (with_reducible repeat (first | apply Kd.R_alloc | apply Kd.R_drewN | apply Kd.R_drew)); exact HO285.out) (Kd.R_base ho0) hb); have n1_ := Aside0.mk (Kd.R_lower (Kd.R_new' ho0 (Kd.R_lt (by (with_reducible repeat (first | apply Kd.R_alloc | apply Kd.R_drewN | apply Kd.R_drew)); exact HO285.out))) (below_size (by repeat (first | (with_reducible first | exact HB.out | apply below_alloc | apply pw_below_drewN | apply below_drew1) | exact HB.out)))); have n2_ := Aside0.mk (below_step (by repeat (first | (with_reducible first | exact HB.out | apply below_alloc | apply pw_below_drewN | apply below_drew1) | exact HB.out)) hb); clear HO285; clear HB; have HO285 := n0_; have HO290 := n1_; have HB := n2_; clear n0_ n1_ n2_; (try clear hb); (try clear hb2); (try clear hk); (try clear hi); (try clear ho0); obtain ⟨Ao34, co34, eo34⟩ := Kd.R_slice HO285.out; subst eo34; obtain ⟨Ao35, co35, eo35⟩ := Kd.R_slice HO290.out; subst eo35) | ((with_reducible refine gate_callee (f := 17) rfl ?_); refine goesL_ (some 35) rfl rfl Tryd.func17 (by kernel_rfl) rfl #[.slice Ao34 t281.length co34, .slice Ao35 t286.length co35] rfl (by (try simp only [List.map_toArray, List.map_cons, List.map_nil]); first | done | rfl | (simp only [List.length_drop, List.length_take]; rfl)) ?_; (with_reducible refine (truffleref06_Same.calls kj3 _ _ t281 _ _ t286 true _ ?side1 ?side2 ?side3 ?side4 A10.out).mono ?_); (case side1 => repeat (first | exact (Kd.R_reads' HO285.out).2.2 | (with_reducible refine Kd.C_alloc ?_ _) | (with_reducible refine Kd.C_drewN ?_ _) | (with_reducible refine Kd.C_drew ?_))); (case side2 => exact (Kd.R_reads' HO285.out).2.1); (case side3 => repeat (first | exact (Kd.R_reads' HO290.out).2.2 | (with_reducible refine Kd.C_alloc ?_ _) | (with_reducible refine Kd.C_drewN ?_ _) | (with_reducible refine Kd.C_drew ?_))); (case side4 => exact (Kd.R_reads' HO290.out).2.1); rintro e w' ⟨rfl, ⟨nd, rfl⟩⟩; refine ⟨_, rfl, ?_⟩))
              go_ret
              exact ⟨by first | rfl | (simp [] <;> rfl) | (simp [*] <;> rfl), by repeat (first | (with_reducible first | exact HB.out | apply below_alloc | apply pw_below_drewN | apply below_drew1) | exact HB.out)⟩
          · rw [if_neg c12] at H
            have c12b0 : (t282 == t287) = false := beq_eq_false_iff_ne.mpr c12
            have c12b1 : (t282 != t287) = true := bne_iff_ne.mpr c12
            obtain rfl := Option.some.inj H
            go_wp2_with (first | ((with_reducible refine gate_callee (f := 16) rfl ?_); refine goesL_ (some 23) rfl rfl Tryd.func16 (by kernel_rfl) rfl #[.string a0] rfl (by (try simp only [List.map_toArray, List.map_cons, List.map_nil]); first | done | rfl | (simp only [List.length_drop, List.length_take]; rfl)) ?_; (with_reducible refine (token_All.calls a0 t281 t282 t283 _ ?side1 A8.out).mono ?_); (case side1 => exact hG.below (by repeat (first | (with_reducible first | exact HB.out | apply below_alloc | apply pw_below_drewN | apply below_drew1) | exact HB.out))); rintro e w36 ⟨v284, rfl, ho0, hb⟩; refine ⟨_, rfl, ?_⟩; have n0_ := Aside0.mk (Kd.R_lower ho0 (below_size (by repeat (first | (with_reducible first | exact HB.out | apply below_alloc | apply pw_below_drewN | apply below_drew1) | exact HB.out)))); have n1_ := Aside0.mk (below_step (by repeat (first | (with_reducible first | exact HB.out | apply below_alloc | apply pw_below_drewN | apply below_drew1) | exact HB.out)) hb); clear HB; have HO285 := n0_; have HB := n1_; clear n0_ n1_; (try clear hb); (try clear hb2); (try clear hk); (try clear hi); (try clear ho0)) | ((with_reducible refine gate_callee (f := 18) rfl ?_); refine goesL_ (some 29) rfl rfl Tryd.func18 (by kernel_rfl) rfl #[.string a0] rfl (by (try simp only [List.map_toArray, List.map_cons, List.map_nil]); first | done | rfl | (simp only [List.length_drop, List.length_take]; rfl)) ?_; (with_reducible refine (truffleref06_All.calls kj3 a0 t286 t287 t288 _ A9.out).mono ?_); rintro e w37 ⟨v289, rfl, ho0, hb⟩; refine ⟨_, rfl, ?_⟩; have n0_ := Aside0.mk (Kd.R_elder' (by (with_reducible repeat (first | apply Kd.R_alloc | apply Kd.R_drewN | apply Kd.R_drew)); exact HO285.out) (Kd.R_base ho0) hb); have n1_ := Aside0.mk (Kd.R_lower (Kd.R_new' ho0 (Kd.R_lt (by (with_reducible repeat (first | apply Kd.R_alloc | apply Kd.R_drewN | apply Kd.R_drew)); exact HO285.out))) (below_size (by repeat (first | (with_reducible first | exact HB.out | apply below_alloc | apply pw_below_drewN | apply below_drew1) | exact HB.out)))); have n2_ := Aside0.mk (below_step (by repeat (first | (with_reducible first | exact HB.out | apply below_alloc | apply pw_below_drewN | apply below_drew1) | exact HB.out)) hb); clear HO285; clear HB; have HO285 := n0_; have HO290 := n1_; have HB := n2_; clear n0_ n1_ n2_; (try clear hb); (try clear hb2); (try clear hk); (try clear hi); (try clear ho0); obtain ⟨Ao38, co38, eo38⟩ := Kd.R_slice HO285.out; subst eo38; obtain ⟨Ao39, co39, eo39⟩ := Kd.R_slice HO290.out; subst eo39) | ((with_reducible refine gate_callee (f := 17) rfl ?_); refine goesL_ (some 35) rfl rfl Tryd.func17 (by kernel_rfl) rfl #[.slice Ao38 t281.length co38, .slice Ao39 t286.length co39] rfl (by (try simp only [List.map_toArray, List.map_cons, List.map_nil]); first | done | rfl | (simp only [List.length_drop, List.length_take]; rfl)) ?_; (with_reducible refine (truffleref06_Same.calls kj3 _ _ t281 _ _ t286 true _ ?side1 ?side2 ?side3 ?side4 A10.out).mono ?_); (case side1 => repeat (first | exact (Kd.R_reads' HO285.out).2.2 | (with_reducible refine Kd.C_alloc ?_ _) | (with_reducible refine Kd.C_drewN ?_ _) | (with_reducible refine Kd.C_drew ?_))); (case side2 => exact (Kd.R_reads' HO285.out).2.1); (case side3 => repeat (first | exact (Kd.R_reads' HO290.out).2.2 | (with_reducible refine Kd.C_alloc ?_ _) | (with_reducible refine Kd.C_drewN ?_ _) | (with_reducible refine Kd.C_drew ?_))); (case side4 => exact (Kd.R_reads' HO290.out).2.1); rintro e w' ⟨rfl, ⟨nd, rfl⟩⟩; refine ⟨_, rfl, ?_⟩))
            go_ret
            exact ⟨by first | rfl | (simp [] <;> rfl) | (simp [*] <;> rfl), by repeat (first | (with_reducible first | exact HB.out | apply below_alloc | apply pw_below_drewN | apply below_drew1) | exact HB.out)⟩
        · replace c11 := Bool.eq_false_iff.mpr c11
          subst c11
          have H1 : (some false) = some r := by rw [if_neg (show ¬ (false = true) by decide)] at H; exact H
          clear H
          have H := H1
          clear H1
          obtain rfl := Option.some.inj H
          go_wp2_with (first | ((with_reducible refine gate_callee (f := 16) rfl ?_); refine goesL_ (some 23) rfl rfl Tryd.func16 (by kernel_rfl) rfl #[.string a0] rfl (by (try simp only [List.map_toArray, List.map_cons, List.map_nil]); first | done | rfl | (simp only [List.length_drop, List.length_take]; rfl)) ?_; (with_reducible refine (token_All.calls a0 t281 t282 t283 _ ?side1 A8.out).mono ?_); (case side1 => exact hG.below (by repeat (first | (with_reducible first | exact HB.out | apply below_alloc | apply pw_below_drewN | apply below_drew1) | exact HB.out))); rintro e w40 ⟨v284, rfl, ho0, hb⟩; refine ⟨_, rfl, ?_⟩; have n0_ := Aside0.mk (Kd.R_lower ho0 (below_size (by repeat (first | (with_reducible first | exact HB.out | apply below_alloc | apply pw_below_drewN | apply below_drew1) | exact HB.out)))); have n1_ := Aside0.mk (below_step (by repeat (first | (with_reducible first | exact HB.out | apply below_alloc | apply pw_below_drewN | apply below_drew1) | exact HB.out)) hb); clear HB; have HO285 := n0_; have HB := n1_; clear n0_ n1_; (try clear hb); (try clear hb2); (try clear hk); (try clear hi); (try clear ho0)) | ((with_reducible refine gate_callee (f := 18) rfl ?_); refine goesL_ (some 29) rfl rfl Tryd.func18 (by kernel_rfl) rfl #[.string a0] rfl (by (try simp only [List.map_toArray, List.map_cons, List.map_nil]); first | done | rfl | (simp only [List.length_drop, List.length_take]; rfl)) ?_; (with_reducible refine (truffleref06_All.calls kj3 a0 t286 t287 t288 _ A9.out).mono ?_); rintro e w41 ⟨v289, rfl, ho0, hb⟩; refine ⟨_, rfl, ?_⟩; have n0_ := Aside0.mk (Kd.R_elder' (by (with_reducible repeat (first | apply Kd.R_alloc | apply Kd.R_drewN | apply Kd.R_drew)); exact HO285.out) (Kd.R_base ho0) hb); have n1_ := Aside0.mk (Kd.R_lower (Kd.R_new' ho0 (Kd.R_lt (by (with_reducible repeat (first | apply Kd.R_alloc | apply Kd.R_drewN | apply Kd.R_drew)); exact HO285.out))) (below_size (by repeat (first | (with_reducible first | exact HB.out | apply below_alloc | apply pw_below_drewN | apply below_drew1) | exact HB.out)))); have n2_ := Aside0.mk (below_step (by repeat (first | (with_reducible first | exact HB.out | apply below_alloc | apply pw_below_drewN | apply below_drew1) | exact HB.out)) hb); clear HO285; clear HB; have HO285 := n0_; have HO290 := n1_; have HB := n2_; clear n0_ n1_ n2_; (try clear hb); (try clear hb2); (try clear hk); (try clear hi); (try clear ho0); obtain ⟨Ao42, co42, eo42⟩ := Kd.R_slice HO285.out; subst eo42; obtain ⟨Ao43, co43, eo43⟩ := Kd.R_slice HO290.out; subst eo43) | ((with_reducible refine gate_callee (f := 17) rfl ?_); refine goesL_ (some 35) rfl rfl Tryd.func17 (by kernel_rfl) rfl #[.slice Ao42 t281.length co42, .slice Ao43 t286.length co43] rfl (by (try simp only [List.map_toArray, List.map_cons, List.map_nil]); first | done | rfl | (simp only [List.length_drop, List.length_take]; rfl)) ?_; (with_reducible refine (truffleref06_Same.calls kj3 _ _ t281 _ _ t286 false _ ?side1 ?side2 ?side3 ?side4 A10.out).mono ?_); (case side1 => repeat (first | exact (Kd.R_reads' HO285.out).2.2 | (with_reducible refine Kd.C_alloc ?_ _) | (with_reducible refine Kd.C_drewN ?_ _) | (with_reducible refine Kd.C_drew ?_))); (case side2 => exact (Kd.R_reads' HO285.out).2.1); (case side3 => repeat (first | exact (Kd.R_reads' HO290.out).2.2 | (with_reducible refine Kd.C_alloc ?_ _) | (with_reducible refine Kd.C_drewN ?_ _) | (with_reducible refine Kd.C_drew ?_))); (case side4 => exact (Kd.R_reads' HO290.out).2.1); rintro e w' ⟨rfl, ⟨nd, rfl⟩⟩; refine ⟨_, rfl, ?_⟩))
          go_ret
          exact ⟨by first | rfl | (simp [] <;> rfl) | (simp [*] <;> rfl), by repeat (first | (with_reducible first | exact HB.out | apply below_alloc | apply pw_below_drewN | apply below_drew1) | exact HB.out)⟩
def trufflelaw06_TokenTells.Pure : Prop := ∀ (a0 : ByteArray) (a1 : Int), a0.size ≤ 140737488351232 → (Lit.int .i64 a1).wf = true → ∃ k, trufflelaw06_TokenTells.f k a0 a1 = some true
theorem trufflelaw06_TokenTells.walk (P : trufflelaw06_TokenTells.Pure) (a0 : ByteArray) (a1 : Int) (w : World) (w0 : a0.size ≤ 140737488351232) (w1 : (Lit.int .i64 a1).wf = true) (hG : GInv w) :
    Calls Tryd.prog 6 #[.string a0, .int .i64 a1] w fun e w' => e = .returned (.bool true) ∧ Below w.heap.size w w' := by
  obtain ⟨k, h⟩ := P a0 a1 w0 w1
  refine (trufflelaw06_TokenTells.calls k a0 a1 true w hG h).mono ?_
  rintro e w' ⟨rfl, hd⟩
  exact ⟨rfl, hd⟩
end Go.Proofs.YtngcojabofkbjaaDoor.P
namespace Go.Proofs.YtngcojabofkbjaaDoor.P
open Go.RowKit Go.Proofs.YtngcojabofkbjaaDoorW.PrintWords Go.Proofs.YtngcojabofkbjaaDoorW.PrintLast Go.Proofs.YtngcojabofkbjaaDoorW.PrintMore
set_option linter.unusedVariables false
set_option linter.unusedSimpArgs false
theorem itoa_m5 : Lib.itoa (-5) = [45, 53] := by
  have h := Lib.itoa_neg 5 (by omega)
  have e : Lib.decDigits 5 = [53] := by rw [Lib.decDigits_one (by omega)]; decide
  rw [e] at h
  exact h
theorem parse_m5 : Lib.parseIntB 64 [45, 53] = .ok (-5) := by decide
theorem numOk_m5 : numOk [45, 53] = true := by
  unfold numOk
  rw [parse_m5]
  simp only [itoa_m5, decide_true]
theorem numV_m5 : numV [45, 53] = -5 := by unfold numV; rw [parse_m5]
theorem lex_m5 : lex1 [45, 53, 59] = some (1, [45, 53], -5, 2) := by
  rw [lex1_cons, if_neg (by decide), if_neg (by decide), if_pos (by decide)]
  have e : List.take (runN numU [45, 53, 59]) ([45, 53, 59] : List UInt8) = [45, 53] := by decide
  have e2 : runN numU [45, 53, 59] = 2 := by decide
  rw [e, numOk_m5, numV_m5, if_pos rfl, e2]
theorem allF_ex : allF ⟨#[97, 32, 61, 32, 45, 53, 59]⟩ = ([⟨0, ⟨#[97]⟩, 0, 0⟩, ⟨3, ⟨#[61]⟩, 0, 2⟩, ⟨1, ⟨#[45, 53]⟩, -5, 4⟩, ⟨3, ⟨#[59]⟩, 0, 6⟩], 7, 0) := by
  have e1 : lex1 [97, 32, 61, 32, 45, 53, 59] = some (0, [97], 0, 1) := by decide
  have e2 : lex1 [61, 32, 45, 53, 59] = some (3, [61], 0, 1) := by decide
  have e4 : lex1 [59] = some (3, [59], 0, 1) := by decide
  have s0 : skipN false [97, 32, 61, 32, 45, 53, 59] = 0 := by decide
  have s1 : skipN false [32, 61, 32, 45, 53, 59] = 1 := by decide
  have s2 : skipN false [32, 45, 53, 59] = 1 := by decide
  have s3 : skipN false [59] = 0 := by decide
  have s4 : skipN false [] = 0 := by decide
  have b : bl ⟨#[97, 32, 61, 32, 45, 53, 59]⟩ = [97, 32, 61, 32, 45, 53, 59] := rfl
  have z : (⟨#[97, 32, 61, 32, 45, 53, 59]⟩ : ByteArray).size = 7 := rfl
  unfold allF allL
  rw [z, if_neg (by omega), b, s0]
  simp only [List.length_cons, List.length_nil, List.drop_zero, lexL, e1, e2, e4, lex_m5, s1, s2, s3, s4, List.drop_succ_cons, List.drop_nil, endL, List.nil_append, z]
  rfl
theorem awake_true : trufflelaw06_awake.f = some true := by
  unfold trufflelaw06_awake.f token_All.f
  rw [allF_ex]
  have q : token_Quote.f (⟨#[97]⟩ : ByteArray) = some ⟨#[34, 97, 34]⟩ := by
    unfold token_Quote.f
    rw [if_pos (by decide)]
    rfl
  simp only [Option.bind_some, q, toList_bl, rd_T29]
  rfl
end Go.Proofs.YtngcojabofkbjaaDoor.P
namespace Go.Proofs.YtngcojabofkbjaaDoor.P
open Go.RowKit Go.Proofs.YtngcojabofkbjaaDoorW.PrintWords Go.Proofs.YtngcojabofkbjaaDoorW.PrintLast Go.Proofs.YtngcojabofkbjaaDoorW.PrintMore
set_option linter.unusedVariables false
set_option linter.unusedSimpArgs false
def preE (ts : List TokS) : List TokS ⊕ (Nat × Int) → List TokS ⊕ (Nat × Int)
  | .inl us => .inl (ts ++ us)
  | .inr e => .inr e
theorem lexL_step (f m p : Nat) (b : UInt8) (r : List UInt8) : lexL (f + 1) m p (b :: r) = match lex1 (b :: r) with
    | none => .inr (p, 4)
    | some (kd, t, v, n) => if m = 0 then .inr (p, 2) else
      preE [⟨kd, ⟨t.toArray⟩, v, p⟩] (lexL f (m - 1) (p + n + skipN false ((b :: r).drop n)) (((b :: r).drop n).drop (skipN false ((b :: r).drop n)))) := by
  simp only [lexL]
  split
  · rename_i h; simp only [h]
  · rename_i kd t v n h
    simp only [h]
    split
    · rfl
    · split <;> rename_i h2 <;> rw [h2] <;> rfl
theorem lexL_fuel : ∀ f g m p l, l.length < f → l.length < g → lexL f m p l = lexL g m p l := by
  intro f
  induction f with
  | zero => intro g m p l h _; omega
  | succ f ih =>
    intro g m p l hf hg
    obtain ⟨g, rfl⟩ : ∃ m, g = m + 1 := ⟨g - 1, by omega⟩
    cases l with
    | nil => rfl
    | cons b r =>
      rw [lexL_step, lexL_step]
      cases h : lex1 (b :: r) with
      | none => rfl
      | some x =>
        obtain ⟨kd, t, v, n⟩ := x
        obtain ⟨n1, n2⟩ := lex1_le _ _ _ _ _ h
        simp only
        split
        · rfl
        · rw [ih g]
          · simp only [List.length_drop]; omega
          · simp only [List.length_drop]; omega
def lx (m p : Nat) (l : List UInt8) : List TokS ⊕ (Nat × Int) := lexL (l.length + 1) m p l
def scan (m p : Nat) (l : List UInt8) : List TokS ⊕ (Nat × Int) := lx m (p + skipN false l) (l.drop (skipN false l))
theorem lx_nil (m p : Nat) : lx m p [] = .inl [] := rfl
theorem lx_cons (m p : Nat) (b : UInt8) (r : List UInt8) : lx m p (b :: r) = match lex1 (b :: r) with
    | none => .inr (p, 4)
    | some (kd, t, v, n) => if m = 0 then .inr (p, 2) else preE [⟨kd, ⟨t.toArray⟩, v, p⟩] (scan (m - 1) (p + n) ((b :: r).drop n)) := by
  unfold lx scan
  rw [lexL_step]
  cases h : lex1 (b :: r) with
  | none => rfl
  | some x =>
    obtain ⟨kd, t, v, n⟩ := x
    obtain ⟨n1, n2⟩ := lex1_le _ _ _ _ _ h
    simp only
    split
    · rfl
    · unfold lx
      rw [lexL_fuel _ ((((b :: r).drop n).drop (skipN false ((b :: r).drop n))).length + 1)]
      · simp only [List.length_drop]; omega
      · omega
theorem all_scan (l : List UInt8) : allL l = scan 1000 0 l := by
  unfold allL scan lx
  rw [Nat.zero_add]
  exact lexL_fuel _ _ _ _ _ (by simp only [List.length_drop]; omega) (by omega)
theorem skipN_t (x : UInt8) (r : List UInt8) : skipN true (x :: r) = 1 + skipN (x != 10) r := by simp only [skipN]
theorem skipN_f (x : UInt8) (r : List UInt8) : skipN false (x :: r) = if blankB x then 1 + skipN false r else if x = 47 ∧ r.head? = some 47 then 1 + skipN true r else 0 := by simp only [skipN]
theorem scan_len : ∀ (d m p : Nat) (a : List UInt8) (ts : List TokS), a.length ≤ d → scan m p a = .inl ts → ts.length ≤ a.length ∧ ts.length ≤ m := by
  intro d
  induction d with
  | zero =>
    intro m p a ts hd h
    obtain rfl : a = [] := List.length_eq_zero_iff.mp (by omega)
    simp only [scan, skipN, List.drop_nil, lx_nil, Sum.inl.injEq] at h
    subst h; simp
  | succ d ih =>
    intro m p a ts hd h
    unfold scan at h
    have hk := skipN_le false a
    generalize skipN false a = k at h hk
    cases hl : a.drop k with
    | nil => rw [hl, lx_nil] at h; simp only [Sum.inl.injEq] at h; subst h; simp
    | cons c r =>
      have hz := congrArg List.length hl
      rw [List.length_drop, List.length_cons] at hz
      rw [hl, lx_cons] at h
      cases hx : lex1 (c :: r) with
      | none => rw [hx] at h; cases h
      | some y =>
        obtain ⟨kd, t, v, n⟩ := y
        obtain ⟨n1, n2⟩ := lex1_le _ _ _ _ _ hx
        rw [hx] at h
        simp only at h
        split at h
        · cases h
        · rename_i hm
          cases hs : scan (m - 1) (p + k + n) ((c :: r).drop n) with
          | inr e => rw [hs] at h; cases h
          | inl us =>
            rw [hs] at h
            simp only [preE, Sum.inl.injEq] at h
            subst h
            simp only [List.length_cons] at n2
            obtain ⟨g1, g2⟩ := ih _ _ _ _ (by simp only [List.length_drop, List.length_cons]; omega) hs
            simp only [List.length_drop, List.length_cons] at g1
            simp only [List.length_append, List.length_cons, List.length_nil]
            omega
theorem bl_app (a b : ByteArray) : bl (a ++ b) = bl a ++ bl b := by simp [bl]
end Go.Proofs.YtngcojabofkbjaaDoor.P
namespace Go.Proofs.YtngcojabofkbjaaDoor.P
open Go.RowKit Go.Proofs.YtngcojabofkbjaaDoorW.PrintWords Go.Proofs.YtngcojabofkbjaaDoorW.PrintLast Go.Proofs.YtngcojabofkbjaaDoorW.PrintMore
set_option linter.unusedVariables false
set_option linter.unusedSimpArgs false
theorem decDigits_small (u : Nat) (h : u < 10) : Lib.decDigits u = [UInt8.ofNat (48 + u)] := Lib.decDigits_one h
theorem decDigits_big (u : Nat) (h : ¬ u < 10) : Lib.decDigits u = Lib.decDigits (u / 10) ++ [UInt8.ofNat (48 + u % 10)] := by
  conv => lhs; rw [Lib.decDigits]
  rw [dif_neg h]
theorem parseM_append (M : Nat) (l : List UInt8) (d : UInt8) : ∀ acc a, Lib.parseUintM M acc l = .ok a → Lib.parseUintM M acc (l ++ [d]) = Lib.parseUintM M a [d] := by
  induction l with
  | nil => intro acc a h; simp only [Lib.parseUintM] at h; cases h; rfl
  | cons c r ih =>
    intro acc a h
    simp only [List.cons_append, Lib.parseUintM] at h ⊢
    by_cases h1 : 48 ≤ c.toNat ∧ c.toNat ≤ 57
    · rw [if_pos h1] at h ⊢
      split at h
      · cases h
      · rename_i h2
        rw [if_neg h2]
        split at h
        · cases h
        · rename_i h3
          rw [if_neg h3]
          have := ih _ _ h
          simpa only [Lib.parseUintM] using this
    · rw [if_neg h1] at h
      cases h
theorem digit_byte (n : Nat) (h : n < 10) : (UInt8.ofNat (48 + n)).toNat = 48 + n := by rw [UInt8.toNat_ofNat', Nat.mod_eq_of_lt (by omega)]
theorem parseM_dec (u : Nat) : u ≤ 9223372036854775808 → Lib.parseUintM 18446744073709551615 0 (Lib.decDigits u) = .ok u := by
  induction u using Nat.strongRecOn with
  | _ u ih =>
    intro hu
    by_cases h : u < 10
    · rw [decDigits_small u h]
      simp only [Lib.parseUintM, digit_byte u h]
      rw [if_pos (by omega), if_neg (by omega), if_neg (by omega)]
      simp
    · rw [decDigits_big u h, parseM_append _ _ _ _ _ (ih (u / 10) (by omega) (by omega))]
      have hm : u % 10 < 10 := Nat.mod_lt _ (by omega)
      simp only [Lib.parseUintM, digit_byte _ hm]
      rw [if_pos (by omega), if_neg (by omega), if_neg (by omega)]
      congr 1
      omega
theorem decDigits_head (u : Nat) : ∃ c r, Lib.decDigits u = c :: r ∧ 48 ≤ c.toNat ∧ c.toNat ≤ 57 := by
  induction u using Nat.strongRecOn with
  | _ u ih =>
    by_cases h : u < 10
    · exact ⟨_, [], decDigits_small u h, by rw [digit_byte u h]; omega, by rw [digit_byte u h]; omega⟩
    · obtain ⟨c, r, e, h1, h2⟩ := ih (u / 10) (by omega)
      exact ⟨c, r ++ [UInt8.ofNat (48 + u % 10)], by rw [decDigits_big u h, e]; rfl, h1, h2⟩
theorem decDigits_digits (u : Nat) : ∀ c ∈ Lib.decDigits u, 48 ≤ c.toNat ∧ c.toNat ≤ 57 := by
  induction u using Nat.strongRecOn with
  | _ u ih =>
    by_cases h : u < 10
    · rw [decDigits_small u h]
      intro c hc
      simp only [List.mem_singleton] at hc
      subst hc
      rw [digit_byte u h]; omega
    · rw [decDigits_big u h]
      intro c hc
      rcases List.mem_append.mp hc with hc | hc
      · exact ih (u / 10) (by omega) c hc
      · simp only [List.mem_singleton] at hc
        subst hc
        have hm : u % 10 < 10 := Nat.mod_lt _ (by omega)
        rw [digit_byte _ hm]; omega
theorem parse_itoa (n : Int) (h0 : -9223372036854775808 ≤ n) (h1 : n ≤ 9223372036854775807) : Lib.parseIntB 64 (Lib.itoa n) = .ok n := by
  have e63 : (2 : Nat) ^ (64 - 1) = 9223372036854775808 := by decide
  have e64 : (2 : Nat) ^ 64 - 1 = 18446744073709551615 := by decide
  by_cases hn : n < 0
  · obtain ⟨u, hu⟩ : ∃ u : Nat, n = -(u : Int) := ⟨n.natAbs, by omega⟩
    subst hu
    rw [Lib.itoa_neg u (by omega)]
    obtain ⟨c, r, hc, hc1, hc2⟩ := decDigits_head u
    have hp := parseM_dec u (by omega)
    unfold Lib.parseIntB
    have h45 : (45 : UInt8).toNat = 45 := rfl
    simp only [h45, or_true, if_true, Lib.parseUintB, e63, e64, hp]
    rw [if_neg (by rw [hc]; simp)]
    simp only [not_true_eq_false, false_and, if_false, true_and]
    rw [if_neg (by omega)]
  · obtain ⟨u, hu⟩ : ∃ u : Nat, n = (u : Int) := ⟨n.toNat, by omega⟩
    subst hu
    rw [Lib.itoa_nonneg u]
    obtain ⟨c, r, hc, hc1, hc2⟩ := decDigits_head u
    have hp := parseM_dec u (by omega)
    rw [hc] at hp ⊢
    unfold Lib.parseIntB
    have n43 : ¬ (c.toNat = 43 ∨ c.toNat = 45) := by omega
    have n45 : ¬ (c.toNat = 45) := by omega
    simp only [n43, if_false, Lib.parseUintB, e63, e64]
    rw [if_neg (by simp), hp]
    simp only [n45, not_false_eq_true, true_and, false_and, if_false]
    rw [if_neg (by omega)]
theorem numOk_itoa (n : Int) (h0 : -9223372036854775808 ≤ n) (h1 : n ≤ 9223372036854775807) : numOk (Lib.itoa n) = true := by
  unfold numOk; rw [parse_itoa n h0 h1]; simp
theorem wf_range {n : Int} (h : (Lit.int .i64 n).wf = true) : -9223372036854775808 ≤ n ∧ n ≤ 9223372036854775807 := by
  simpa [Lit.wf, IntKind.min, IntKind.max, IntKind.signed, IntKind.bits] using h
end Go.Proofs.YtngcojabofkbjaaDoor.P
namespace Go.Proofs.YtngcojabofkbjaaDoor.P
open Go.RowKit Go.Proofs.YtngcojabofkbjaaDoorW.PrintWords Go.Proofs.YtngcojabofkbjaaDoorW.PrintLast Go.Proofs.YtngcojabofkbjaaDoorW.PrintMore
set_option linter.unusedVariables false
set_option linter.unusedSimpArgs false
theorem quoteF (a : ByteArray) (h : a.size ≤ 1000000000000) : token_Quote.f a = some ⟨(quoteL (bl a)).toArray⟩ := by
  unfold token_Quote.f
  rw [if_pos h]
theorem digitsF (n : Int) (h : (Lit.int .i64 n).wf = true) : token_Digits.f n = some ⟨(Lib.itoa n).toArray⟩ := by
  unfold token_Digits.f
  rw [if_pos (wf_range h).1, if_pos (wf_range h).2]
theorem blMk (l : List UInt8) : bl ⟨l.toArray⟩ = l := rfl
end Go.Proofs.YtngcojabofkbjaaDoor.P
namespace Go.Proofs.YtngcojabofkbjaaDoor.P
open Go.RowKit Go.Proofs.YtngcojabofkbjaaDoorW.PrintWords Go.Proofs.YtngcojabofkbjaaDoorW.PrintLast Go.Proofs.YtngcojabofkbjaaDoorW.PrintMore
set_option linter.unusedVariables false
set_option linter.unusedSimpArgs false
theorem byte_eq (a b : UInt8) (h : a.toNat = b.toNat) : a = b := UInt8.toNat_inj.mp h
end Go.Proofs.YtngcojabofkbjaaDoor.P
namespace Go.Proofs.YtngcojabofkbjaaDoor.P
open Go.RowKit Go.Proofs.YtngcojabofkbjaaDoorW.PrintWords Go.Proofs.YtngcojabofkbjaaDoorW.PrintLast Go.Proofs.YtngcojabofkbjaaDoorW.PrintMore
set_option linter.unusedVariables false
set_option linter.unusedSimpArgs false
theorem byte_num (c : UInt8) (n : Nat) (h : n < 256) : ((c.toNat : Int) = (n : Int)) ↔ c = UInt8.ofNat n := by
  rw [← UInt8.toNat_inj, UInt8.toNat_ofNat', Nat.mod_eq_of_lt (by omega)]
  omega
theorem blank_blank (s : ByteArray) (k i : Nat) (hi : i < s.size) (hs : s.size ≤ 1000000000000) (hb : blankB s[i] = true) : truffleref06_blank.l0 (k + 2) s i = truffleref06_blank.l0 k s ((i + 1 : Nat) : Int) := by
  have e : (s[i].toNat : Int) = 32 ∨ (s[i].toNat : Int) = 9 ∨ (s[i].toNat : Int) = 10 ∨ (s[i].toNat : Int) = 13 := by
    unfold blankB at hb
    simp only [Bool.or_eq_true, beq_iff_eq] at hb
    rcases hb with ((h | h) | h) | h <;> rw [h] <;> simp
  simp only [truffleref06_blank.l0, truffleref06_blank.j1]
  rw [if_pos (by omega), if_pos (by omega), bt_nat s i hi, wrap_small _ (by omega) (by omega), show ((i : Int) + 1) = ((i + 1 : Nat) : Int) from by omega]
  rcases e with h | h | h | h <;> rw [h] <;> simp
theorem blank_ref (s : ByteArray) (hs : s.size ≤ 1000000000000) : ∀ d i : Nat, i ≤ s.size → s.size - i ≤ d →
    (∀ k, 8 * d + 8 < k → truffleref06_blank.l0 k s i = some ((i + skipN false ((bl s).drop i) : Nat) : Int)) ∧
    (∀ k, 8 * d + 4 < k → truffleref06_blank.l1 k s i = some ((i + skipN true ((bl s).drop i) : Nat) : Int)) := by
  intro d
  induction d with
  | zero =>
    intro i hi hd
    obtain rfl : i = s.size := by omega
    have e : (bl s).drop s.size = [] := List.drop_of_length_le (by rw [bl_length]; omega)
    have h0 : ∀ k, truffleref06_blank.l0 (k + 1) s (s.size : Int) = some ((s.size : Nat) : Int) := by
      intro k
      simp only [truffleref06_blank.l0]
      rw [if_neg (by omega)]
    refine ⟨fun k hk => ?_, fun k hk => ?_⟩
    · obtain ⟨k, rfl⟩ : ∃ m, k = m + 1 := ⟨k - 1, by omega⟩
      rw [h0, e]; simp [skipN]
    · obtain ⟨k, rfl⟩ : ∃ m, k = m + 1 + 1 := ⟨k - 2, by omega⟩
      simp only [truffleref06_blank.l1]
      rw [if_neg (by omega), h0, e]; simp [skipN]
  | succ d ih =>
    intro i hi hd
    by_cases hlt : i < s.size
    · obtain ⟨ih0, ih1⟩ := ih (i + 1) (by omega) (by omega)
      have hc := drop_bl s i hlt
      have hw : wrap64 ((i : Int) + 1) = ((i + 1 : Nat) : Int) := by rw [wrap_small _ (by omega) (by omega)]; omega
      have hB : ∀ k, 8 * d + 10 < k → blankB s[i] = true → truffleref06_blank.l0 k s i = some ((i + skipN false ((bl s).drop i) : Nat) : Int) := by
        intro k hk hb
        obtain ⟨k, rfl⟩ : ∃ m, k = m + 2 := ⟨k - 2, by omega⟩
        rw [blank_blank s k i hlt hs hb, ih0 k (by omega), hc, skipN_f, if_pos hb]
        congr 2; omega
      have h1 : ∀ k, 8 * (d + 1) + 4 < k → truffleref06_blank.l1 k s i = some ((i + skipN true ((bl s).drop i) : Nat) : Int) := by
        intro k hk
        obtain ⟨k, rfl⟩ : ∃ m, k = m + 1 := ⟨k - 1, by omega⟩
        simp only [truffleref06_blank.l1]
        rw [if_pos (by omega), if_pos (by omega), bt_nat s i hlt]
        by_cases h10 : s[i] = 10
        · rw [if_pos (by rw [h10]; rfl), hB k (by omega) (by rw [h10]; rfl), hc, h10]
          rw [skipN_f, skipN_t, if_pos (by rfl)]; rfl
        · rw [if_neg (by intro e; exact h10 ((byte_num s[i] 10 (by omega)).mp e)), hw, ih1 k (by omega), hc, skipN_t, show (s[i] != 10) = true from bne_iff_ne.mpr h10]
          congr 2; omega
      refine ⟨fun k hk => ?_, h1⟩
      by_cases hb : blankB s[i] = true
      · exact hB k (by omega) hb
      · obtain ⟨k, rfl⟩ : ∃ m, k = m + 3 := ⟨k - 3, by omega⟩
        have n32 : ¬ (s[i].toNat : Int) = 32 := fun e => hb (by rw [(byte_num s[i] 32 (by omega)).mp e]; rfl)
        have n9 : ¬ (s[i].toNat : Int) = 9 := fun e => hb (by rw [(byte_num s[i] 9 (by omega)).mp e]; rfl)
        have n10 : ¬ (s[i].toNat : Int) = 10 := fun e => hb (by rw [(byte_num s[i] 10 (by omega)).mp e]; rfl)
        have n13 : ¬ (s[i].toNat : Int) = 13 := fun e => hb (by rw [(byte_num s[i] 13 (by omega)).mp e]; rfl)
        simp only [truffleref06_blank.l0, truffleref06_blank.j1, truffleref06_blank.j2]
        rw [if_pos (by omega), if_pos (by omega), bt_nat s i hlt, if_neg n32, if_neg n9, if_neg n10, beq_eq_false_iff_ne.mpr n13, if_neg (by decide), hw, hc, skipN_f, if_neg hb]
        by_cases hlt2 : i + 1 < s.size
        · rw [if_neg (by omega)]
          by_cases h47 : s[i] = 47
          · rw [if_pos (by rw [h47]; rfl), if_pos (by omega), if_pos (by omega), bt_nat s (i + 1) hlt2, drop_bl s (i + 1) hlt2]
            by_cases g47 : s[i + 1] = 47
            · have hP : s[i] = 47 ∧ (s[i + 1] :: List.drop (i + 1 + 1) (bl s)).head? = some 47 := ⟨h47, by rw [g47]; rfl⟩
              have hx : (((s[i + 1].toNat : Nat) : Int) != 47) = false := by rw [g47]; rfl
              rw [hx, if_neg (by decide), h1 k (by omega), if_pos hP, hc, skipN_t, h47, drop_bl s (i + 1) hlt2]
              rfl
            · have hP : ¬ (s[i] = 47 ∧ (s[i + 1] :: List.drop (i + 1 + 1) (bl s)).head? = some 47) := by rintro ⟨_, e⟩; simp only [List.head?_cons, Option.some.injEq] at e; exact g47 e
              have hx : (((s[i + 1].toNat : Nat) : Int) != 47) = true := by rw [bne_iff_ne]; intro e; exact g47 ((byte_num _ 47 (by omega)).mp e)
              rw [hx, if_pos rfl, if_neg hP]; rfl
          · have hP : ∀ P : Prop, ¬ (s[i] = 47 ∧ P) := fun P h => h47 h.1
            rw [if_neg (show ¬ (s[i].toNat : Int) = 47 from fun e => h47 ((byte_num _ 47 (by omega)).mp e)), if_pos trivial, if_neg (hP _)]; rfl
        · rw [if_pos (by omega), if_pos trivial]
          have : (bl s).drop (i + 1) = [] := List.drop_of_length_le (by rw [bl_length]; omega)
          rw [this, if_neg (by simp)]; rfl
    · obtain ⟨ih0, ih1⟩ := ih i hi (by omega)
      exact ⟨fun k hk => ih0 k (by omega), fun k hk => ih1 k (by omega)⟩
theorem letter_ref (c : UInt8) : truffleref06_letter.f (c.toNat : Int) = some (decide (ofK (c.toNat : Int) = 0)) := by
  have e : (ofK (c.toNat : Int) = 0) ↔ (97 ≤ (c.toNat : Int) ∧ (c.toNat : Int) ≤ 122) ∨ (65 ≤ (c.toNat : Int) ∧ (c.toNat : Int) ≤ 90) ∨ (c.toNat : Int) = 95 := by
    unfold ofK
    constructor
    · intro h
      split at h
      · assumption
      · split at h
        · omega
        · split at h
          · omega
          · split at h <;> omega
    · intro h; rw [if_pos h]
  simp only [e]
  unfold truffleref06_letter.f
  generalize (c.toNat : Int) = x
  repeat' split
  all_goals (congr 1; symm; first | (rw [decide_eq_true_eq]; omega) | (rw [Bool.eq_iff_iff, decide_eq_true_eq, beq_iff_eq]; omega))
theorem digit_ref (c : UInt8) : truffleref06_digit.f (c.toNat : Int) = some (numU c) := by
  have e : numU c = decide (48 ≤ (c.toNat : Int) ∧ (c.toNat : Int) ≤ 57) := by
    unfold numU numB
    rw [Bool.eq_iff_iff, decide_eq_true_eq, Bool.and_eq_true, beq_iff_eq, bne_iff_ne]
    unfold ofK
    constructor
    · rintro ⟨h, h2⟩
      split at h
      · omega
      · split at h
        · omega
        · split at h
          · omega
          · split at h <;> omega
    · intro h; rw [if_neg (by omega), if_pos (by omega)]; exact ⟨rfl, by omega⟩
  rw [e]
  unfold truffleref06_digit.f
  split
  · congr 1
    rw [Bool.eq_iff_iff, decide_eq_true_eq, decide_eq_true_eq]; omega
  · congr 1; symm; rw [decide_eq_false_iff_not]; omega
theorem signed_loop (c : UInt8) : ∀ d k i : Nat, i ≤ 12 → 12 - i ≤ d → d < k → truffleref06_signed.l0 k (c.toNat : Int) ⟨#[123, 125, 40, 41, 91, 93, 60, 62, 61, 59, 44, 46]⟩ i = some (decide (c ∈ signsL.drop i)) := by
  have hz : (⟨#[123, 125, 40, 41, 91, 93, 60, 62, 61, 59, 44, 46]⟩ : ByteArray).size = 12 := rfl
  have hb : bl (⟨#[123, 125, 40, 41, 91, 93, 60, 62, 61, 59, 44, 46]⟩ : ByteArray) = signsL := rfl
  generalize (⟨#[123, 125, 40, 41, 91, 93, 60, 62, 61, 59, 44, 46]⟩ : ByteArray) = x at hz hb
  intro d
  induction d with
  | zero =>
    intro k i hi hd hk
    obtain ⟨k, rfl⟩ : ∃ m, k = m + 1 := ⟨k - 1, by omega⟩
    simp only [truffleref06_signed.l0]
    rw [if_neg (by omega), ← hb, List.drop_of_length_le (by rw [bl_length]; omega)]
    simp
  | succ d ih =>
    intro k i hi hd hk
    obtain ⟨k, rfl⟩ : ∃ m, k = m + 1 := ⟨k - 1, by omega⟩
    simp only [truffleref06_signed.l0]
    by_cases hlt : i < x.size
    · rw [if_pos (by omega), if_pos (by omega), bt_nat x i hlt, ← hb, drop_bl x i hlt]
      by_cases he : x[i] = c
      · rw [if_pos (by rw [he])]; simp [he]
      · rw [if_neg (by intro e; exact he (byte_eq _ _ (by omega))), wrap_small _ (by omega) (by omega), show ((i : Int) + 1) = ((i + 1 : Nat) : Int) from by omega, ih k (i + 1) (by omega) (by omega) (by omega), hb]
        have he2 : ¬ c = x[i] := fun e => he e.symm
        simp [he2]
    · rw [if_neg (by omega), ← hb, List.drop_of_length_le (by rw [bl_length]; omega)]
      simp
theorem signed_ref (c : UInt8) (k : Nat) (hk : 12 < k) : truffleref06_signed.f k (c.toNat : Int) = some (decide (0 ≤ Lib.indexByte signsL c)) := by
  unfold truffleref06_signed.f
  have := signed_loop c 12 k 0 (by omega) (by omega) hk
  rw [List.drop_zero] at this
  rw [show ((0 : Nat) : Int) = 0 from rfl] at this
  rw [this]
  simp only [index_ge]
end Go.Proofs.YtngcojabofkbjaaDoor.P
namespace Go.Proofs.YtngcojabofkbjaaDoor.P
open Go.RowKit Go.Proofs.YtngcojabofkbjaaDoorW.PrintWords Go.Proofs.YtngcojabofkbjaaDoorW.PrintLast Go.Proofs.YtngcojabofkbjaaDoorW.PrintMore
set_option linter.unusedVariables false
set_option linter.unusedSimpArgs false
theorem dig_ex : ∀ r : Fin 10, bl ((⟨#[48, 49, 50, 51, 52, 53, 54, 55, 56, 57]⟩ : ByteArray).extract r.val (r.val + 1)) = [UInt8.ofNat (48 + r.val)] := by decide
theorem dec_len (k : Nat) : ∀ u, u < 10 ^ (k + 1) → (Lib.decDigits u).length ≤ k + 1 := by
  induction k with
  | zero => intro u hu; rw [decDigits_small u (by simpa using hu)]; simp
  | succ k ih =>
    intro u hu
    by_cases h : u < 10
    · rw [decDigits_small u h]; simp
    · rw [decDigits_big u h, List.length_append]
      have := ih (u / 10) (by rw [Nat.pow_succ] at hu; omega)
      simp only [List.length_cons, List.length_nil]; omega
theorem digits_nat (k : Nat) : ∀ u : Nat, u < 10 ^ (k + 1) → u ≤ 9223372036854775807 → truffleref06_Digits.f (k + 1) (u : Int) = some ⟨(Lib.decDigits u).toArray⟩ := by
  induction k with
  | zero =>
    intro u hu hz
    have hu : u < 10 := by simpa using hu
    have hm : Int.tmod (u : Int) 10 = ((u % 10 : Nat) : Int) := by rw [Int.tmod_eq_emod_of_nonneg (by omega)]; omega
    simp only [truffleref06_Digits.f]
    rw [if_neg (by omega), hm, wrap_small _ (by omega) (by omega), if_pos (by omega), if_pos (by omega), if_pos (by omega), if_pos (by omega), show (((u % 10 : Nat) : Int) + 1).toNat = u % 10 + 1 from by omega, Int.toNat_natCast]
    have := dig_ex ⟨u % 10, Nat.mod_lt _ (by omega)⟩
    congr 1
    apply eq_of_bl
    rw [this, decDigits_small u hu]
    show [UInt8.ofNat (48 + u % 10)] = [UInt8.ofNat (48 + u)]
    rw [Nat.mod_eq_of_lt hu]
  | succ k ih =>
    intro u hu hz
    have hm : Int.tmod (u : Int) 10 = ((u % 10 : Nat) : Int) := by rw [Int.tmod_eq_emod_of_nonneg (by omega)]; omega
    have hq : Int.tdiv (u : Int) 10 = ((u / 10 : Nat) : Int) := by rw [Int.tdiv_eq_ediv_of_nonneg (by omega)]; omega
    rw [truffleref06_Digits.f]
    rw [if_neg (by omega), hm, hq, wrap_small (((u % 10 : Nat) : Int) + 1) (by omega) (by omega), if_pos (by omega), if_pos (by omega), if_pos (by omega), show (((u % 10 : Nat) : Int) + 1).toNat = u % 10 + 1 from by omega, Int.toNat_natCast]
    have hd := dig_ex ⟨u % 10, Nat.mod_lt _ (by omega)⟩
    simp only at hd
    generalize (⟨#[48, 49, 50, 51, 52, 53, 54, 55, 56, 57]⟩ : ByteArray).extract (u % 10) (u % 10 + 1) = x at hd ⊢
    by_cases h : u < 10
    · rw [if_pos (by omega)]
      congr 1
      apply eq_of_bl
      rw [hd, decDigits_small u h, Nat.mod_eq_of_lt h]
    · have hw : wrap64 ((u / 10 : Nat) : Int) = ((u / 10 : Nat) : Int) := by unfold wrap64; omega
      rw [if_neg (by omega), hw, ih (u / 10) (by rw [Nat.pow_succ] at hu; omega) (by omega)]
      have hl := Lib.itoa_length_le ((u / 10 : Nat) : Int) (by omega) (by omega)
      rw [Lib.itoa_nonneg] at hl
      have z1 : (⟨(Lib.decDigits (u / 10)).toArray⟩ : ByteArray).size = (Lib.decDigits (u / 10)).length := by rw [← bl_length, blMk (Lib.decDigits (u / 10))]
      have z2 : x.size = 1 := by rw [← bl_length, hd]; rfl
      simp only [Option.bind_some]
      rw [if_pos (by omega)]
      congr 1
      apply eq_of_bl
      rw [bl_app, hd, blMk (Lib.decDigits (u / 10)), blMk (Lib.decDigits u), decDigits_big u h]
theorem digits_ref (n : Int) (h0 : -9223372036854775808 ≤ n) (h1 : n ≤ 9223372036854775807) (K : Nat) (hK : 30 < K) : truffleref06_Digits.f K n = some ⟨(Lib.itoa n).toArray⟩ := by
  have hpow : ∀ k, 18 ≤ k → (9223372036854775807 : Nat) < 10 ^ (k + 1) := by
    intro k hk
    have : (10 : Nat) ^ 19 ≤ 10 ^ (k + 1) := Nat.pow_le_pow_right (by omega) (by omega)
    omega
  by_cases hn : n < 0
  · obtain ⟨K, rfl⟩ : ∃ m, K = m + 1 + 1 := ⟨K - 2, by omega⟩
    rw [truffleref06_Digits.f, if_pos hn]
    by_cases hmin : n = -9223372036854775808
    · rw [if_pos hmin, hmin]
      congr 1
      apply eq_of_bl
      rw [show ((-9223372036854775808 : Int)) = -((9223372036854775808 : Nat) : Int) from rfl, Lib.itoa_neg 9223372036854775808 (by omega)]
      have : Lib.decDigits 9223372036854775808 = [57, 50, 50, 51, 51, 55, 50, 48, 51, 54, 56, 53, 52, 55, 55, 53, 56, 48, 56] := by
        decide +kernel
      rw [this]
    · obtain ⟨u, hu⟩ : ∃ u : Nat, n = -(u : Int) := ⟨n.natAbs, by omega⟩
      subst hu
      have hw : wrap64 (- -(u : Int)) = (u : Int) := by unfold wrap64; omega
      rw [if_neg hmin, hw, digits_nat K u (by have := hpow K (by omega); omega) (by omega)]
      have hl := Lib.itoa_length_le (u : Int) (by omega) (by omega)
      rw [Lib.itoa_nonneg] at hl
      have z1 : (⟨(Lib.decDigits u).toArray⟩ : ByteArray).size = (Lib.decDigits u).length := by rw [← bl_length, blMk (Lib.decDigits u)]
      simp only [Option.bind_some]
      rw [if_pos (by omega)]
      congr 1
      apply eq_of_bl
      rw [bl_app, blMk (Lib.decDigits u), blMk (Lib.itoa _), Lib.itoa_neg u (by omega)]; rfl
  · obtain ⟨u, hu⟩ : ∃ u : Nat, n = (u : Int) := ⟨n.toNat, by omega⟩
    subst hu
    obtain ⟨K, rfl⟩ : ∃ m, K = m + 1 := ⟨K - 1, by omega⟩
    rw [digits_nat K u (by have := hpow K (by omega); omega) (by omega), Lib.itoa_nonneg]
def valU (acc : Nat) (l : List UInt8) : Nat := l.foldl (fun a c => 10 * a + (c.toNat - 48)) acc
theorem valU_ge (l : List UInt8) : ∀ acc, acc ≤ valU acc l := by
  induction l with
  | nil => intro acc; exact Nat.le_refl _
  | cons c r ih => intro acc; have := ih (10 * acc + (c.toNat - 48)); simp only [valU, List.foldl_cons] at *; omega
theorem valU_snoc (acc : Nat) (l : List UInt8) (c : UInt8) : valU acc (l ++ [c]) = 10 * valU acc l + (c.toNat - 48) := by
  simp [valU, List.foldl_append]
theorem valU_dec (u : Nat) : valU 0 (Lib.decDigits u) = u := by
  induction u using Nat.strongRecOn with
  | _ u ih =>
    by_cases h : u < 10
    · rw [decDigits_small u h]
      simp only [valU, List.foldl_cons, List.foldl_nil, digit_byte u h]; omega
    · have hm : u % 10 < 10 := Nat.mod_lt _ (by omega)
      rw [decDigits_big u h, valU_snoc, ih (u / 10) (by omega), digit_byte _ hm]; omega
theorem num_l0_any (t : ByteArray) (x5 : Int) (hs : t.size ≤ 1000000) : ∀ d k i : Nat, ∀ x4 : Int, i ≤ t.size → t.size - i ≤ d → d + 60 < k → ∃ v ok, truffleref06_number.l0 k t x4 x5 i = some (v, ok) ∧ (ok = true → numOk (bl t) = true) := by
  intro d
  induction d with
  | zero =>
    intro k i x4 hi hd hk
    obtain ⟨k, rfl⟩ : ∃ m, k = m + 1 + 1 := ⟨k - 2, by omega⟩
    have hj : ∀ b, ∃ v ok, truffleref06_number.j4 (k + 1) t x4 x5 b = some (v, ok) ∧ (ok = true → numOk (bl t) = true) := by
      intro b
      cases b
      · simp only [truffleref06_number.j4]
        rw [if_neg (by decide)]
        have r1 : ∀ z, -9223372036854775808 ≤ wrap64 z ∧ wrap64 z ≤ 9223372036854775807 := by intro z; unfold wrap64; omega
        have r2 : ∀ z, ((⟨(Lib.itoa (wrap64 z)).toArray⟩ : ByteArray).toList == t.toList) = true → numOk (bl t) = true := by
          intro z e
          rw [beq_iff_eq, toList_bl, toList_bl, blMk (Lib.itoa (wrap64 z))] at e
          rw [← e]; exact numOk_itoa _ (r1 z).1 (r1 z).2
        split
        · rw [digits_ref _ (r1 _).1 (r1 _).2 k (by omega)]
          exact ⟨_, _, rfl, r2 _⟩
        · rw [digits_ref _ (r1 _).1 (r1 _).2 k (by omega)]
          exact ⟨_, _, rfl, r2 _⟩
      · simp only [truffleref06_number.j4, if_true]
        exact ⟨0, false, rfl, fun h => (by cases h)⟩
    simp only [truffleref06_number.l0]
    rw [if_neg (by omega)]
    split
    · exact hj true
    · split
      · exact hj _
      · exact hj false
  | succ d ih =>
    intro k i x4 hi hd hk
    by_cases hlt : i < t.size
    · obtain ⟨k, rfl⟩ : ∃ m, k = m + 1 := ⟨k - 1, by omega⟩
      simp only [truffleref06_number.l0]
      rw [if_pos (by omega), if_pos (by omega), wrap_small _ (by omega) (by omega)]
      exact ih k (i + 1) _ (by omega) (by omega) (by omega)
    · exact ih k i x4 hi (by omega) (by omega)
theorem num_l0_val (t : ByteArray) (x5 : Int) (hs : t.size ≤ 1000000) : ∀ (l : List UInt8) (acc i k : Nat), i ≤ t.size → (bl t).drop i = l → (∀ c ∈ l, 48 ≤ c.toNat ∧ c.toNat ≤ 57) → valU acc l ≤ 9223372036854775808 → l.length + 60 < k →
    ∃ k', 60 < k' ∧ truffleref06_number.l0 k t acc x5 i = truffleref06_number.l0 k' t (valU acc l : Nat) x5 t.size := by
  intro l
  induction l with
  | nil =>
    intro acc i k hi hl hd hv hk
    have := congrArg List.length hl
    rw [List.length_drop, bl_length, List.length_nil] at this
    obtain rfl : i = t.size := by omega
    exact ⟨k, by simpa using hk, rfl⟩
  | cons c r ih =>
    intro acc i k hi hl hd hv hk
    obtain ⟨k, rfl⟩ : ∃ m, k = m + 1 := ⟨k - 1, by omega⟩
    have hz := congrArg List.length hl
    rw [List.length_drop, bl_length, List.length_cons] at hz
    have hlt : i < t.size := by omega
    rw [drop_bl t i hlt] at hl
    simp only [List.cons.injEq] at hl
    obtain ⟨hc, hr⟩ := hl
    have hdc := hd c (by simp)
    have hge := valU_ge r (10 * acc + (c.toNat - 48))
    have hv2 : valU acc (c :: r) = valU (10 * acc + (c.toNat - 48)) r := rfl
    rw [hv2] at hv ⊢
    simp only [truffleref06_number.l0]
    rw [if_pos (by omega), if_pos (by omega), bt_nat t i hlt, hc, wrap_small _ (by omega) (by omega)]
    have e : IntKind.u64.wrap (IntKind.u64.wrap (10 * (acc : Int)) + ((c.toNat : Int) - 48) % 256) = ((10 * acc + (c.toNat - 48) : Nat) : Int) := by
      have w : ∀ z : Int, 0 ≤ z → z ≤ 9223372036854775808 → IntKind.u64.wrap z = z := by
        intro z z0 z1
        simp only [IntKind.wrap, IntKind.signed, IntKind.bits]
        first | omega | (simp; omega)
      rw [w (10 * (acc : Int)) (by omega) (by omega), w _ (by omega) (by omega)]
      omega
    rw [e]
    exact ih _ (i + 1) k (by omega) hr (fun x hx => hd x (by simp [hx])) hv (by simp only [List.length_cons] at hk; omega)
theorem num_neg (l : List UInt8) (h : numOk l = true) : ∃ v : Int, numV l = v ∧ l = Lib.itoa v ∧ -9223372036854775808 ≤ v ∧ v ≤ 9223372036854775807 := by
  unfold numOk at h
  unfold numV
  cases hp : Lib.parseIntB 64 l with
  | ok v =>
    rw [hp] at h
    have h2 := of_decide_eq_true h
    obtain ⟨a, b⟩ := parse_range l v hp
    exact ⟨v, rfl, h2.symm, a, b⟩
  | _ => rw [hp] at h; cases h
theorem number_ref (t : ByteArray) (hs : t.size ≤ 1000000) (K : Nat) (hK : t.size + 100 < K) : ∃ v ok, truffleref06_number.f K t = some (v, ok) ∧ (numOk (bl t) = true → ok = true ∧ v = numV (bl t)) ∧ (ok = true → numOk (bl t) = true) := by
  obtain ⟨K, rfl⟩ : ∃ m, K = m + 3 := ⟨K - 3, by omega⟩
  have hj0 : ∀ b, truffleref06_number.j0 (K + 3) t 0 0 b = truffleref06_number.j1 (K + 2) t 0 (if b = true then 1 else 0) := by
    intro b
    simp only [truffleref06_number.j0]
    cases b
    · rw [if_neg (by decide), if_neg (by decide)]
    · rw [if_pos rfl, if_pos rfl]
  have hf : truffleref06_number.f (K + 3) t = truffleref06_number.j1 (K + 2) t 0 (if (bl t).head? = some 45 then 1 else 0) := by
    unfold truffleref06_number.f
    by_cases hz : 0 < t.size
    · rw [if_pos (by omega), if_pos (by omega), hj0]
      have h0 := bt_nat t 0 hz
      have hd := drop_bl t 0 hz
      rw [List.drop_zero] at hd
      rw [show bt t 0 = (t[0].toNat : Int) from h0, hd]
      by_cases h45 : t[0] = 45
      · rw [h45, if_pos (by decide), if_pos (by rw [List.head?_cons])]
      · rw [if_neg (by rw [beq_iff_eq]; exact fun e => h45 ((byte_num _ 45 (by omega)).mp e)), if_neg (by simp only [List.head?_cons, Option.some.injEq]; exact h45)]
    · have : bl t = [] := List.length_eq_zero_iff.mp (by rw [bl_length]; omega)
      rw [if_neg (by omega), hj0, this, if_neg (by decide), if_neg (by simp)]
  rw [hf]
  by_cases hok : numOk (bl t) = true
  · obtain ⟨v, hv, hl, h0, h1⟩ := num_neg _ hok
    have hsz : t.size = (Lib.itoa v).length := by rw [← bl_length, hl]
    have htl : ((⟨(Lib.itoa v).toArray⟩ : ByteArray).toList == t.toList) = true := by
      rw [beq_iff_eq, toList_bl, toList_bl, blMk (Lib.itoa v), hl]
    refine ⟨v, true, ?_, fun _ => ⟨rfl, hv.symm⟩, fun _ => hok⟩
    have p19 : (9223372036854775808 : Nat) < 10 ^ (18 + 1) := by decide
    by_cases hn : v < 0
    · obtain ⟨u, hu⟩ : ∃ u : Nat, v = -(u : Int) := ⟨v.natAbs, by omega⟩
      have hi : Lib.itoa v = 45 :: Lib.decDigits u := by rw [hu, Lib.itoa_neg u (by omega)]
      have hlen := dec_len 18 u (by omega)
      obtain ⟨c, r, hc, hc1, hc2⟩ := decDigits_head u
      have hpos : 1 ≤ (Lib.decDigits u).length := by rw [hc]; simp
      rw [hi, List.length_cons] at hsz
      have hdrop : (bl t).drop 1 = Lib.decDigits u := by rw [hl, hi]; rfl
      rw [hl, hi, List.head?_cons, if_pos rfl]
      simp only [truffleref06_number.j1, truffleref06_number.j2]
      rw [if_neg (by omega), wrap_small _ (by omega) (by omega), decide_eq_false (by omega), if_neg (by decide)]
      obtain ⟨k', hk', e⟩ := num_l0_val t 1 hs (Lib.decDigits u) 0 1 K (by omega) hdrop (decDigits_digits u) (by rw [valU_dec]; omega) (by omega)
      rw [valU_dec] at e
      rw [show ((1 : Nat) : Int) = 1 from rfl, show ((0 : Nat) : Int) = 0 from rfl] at e
      rw [e]
      obtain ⟨k', rfl⟩ : ∃ m, k' = m + 1 + 1 := ⟨k' - 2, by omega⟩
      have hwu : wrap64 (-(wrap64 (u : Int))) = v := by unfold wrap64; omega
      have hj4 : truffleref06_number.j4 (k' + 1) t (u : Int) 1 false = some (v, true) := by
        simp only [truffleref06_number.j4]
        rw [if_neg (by decide), if_pos trivial, hwu, digits_ref v h0 h1 k' (by omega)]
        simp only [Option.bind_some]
        rw [htl]
      simp only [truffleref06_number.l0]
      rw [if_neg (by omega), if_neg (by omega), show ((1 : Int) == 0) = false from rfl, hj4]
      split <;> rfl
    · obtain ⟨u, hu⟩ : ∃ u : Nat, v = (u : Int) := ⟨v.toNat, by omega⟩
      have hi : Lib.itoa v = Lib.decDigits u := by rw [hu, Lib.itoa_nonneg u]
      have hlen := dec_len 18 u (by omega)
      obtain ⟨c, r, hc, hc1, hc2⟩ := decDigits_head u
      have hpos : 1 ≤ (Lib.decDigits u).length := by rw [hc]; simp
      rw [hi] at hsz
      have hh : ¬ (bl t).head? = some 45 := by
        rw [hl, hi, hc, List.head?_cons, Option.some.injEq]
        rintro rfl
        revert hc1; decide
      rw [if_neg hh]
      simp only [truffleref06_number.j1, truffleref06_number.j2]
      rw [if_neg (by omega), wrap_small _ (by omega) (by omega), decide_eq_false (by omega), if_neg (by decide)]
      obtain ⟨k', hk', e⟩ := num_l0_val t 0 hs (Lib.decDigits u) 0 0 K (by omega) (by rw [List.drop_zero, hl, hi]) (decDigits_digits u) (by rw [valU_dec]; omega) (by omega)
      rw [valU_dec] at e
      rw [show ((0 : Nat) : Int) = 0 from rfl] at e
      rw [e]
      obtain ⟨k', rfl⟩ : ∃ m, k' = m + 1 + 1 := ⟨k' - 2, by omega⟩
      have hwu : wrap64 (u : Int) = v := by unfold wrap64; omega
      have hj4 : truffleref06_number.j4 (k' + 1) t (u : Int) 0 false = some (v, true) := by
        simp only [truffleref06_number.j4]
        rw [if_neg (by decide), if_neg (by decide), hwu, digits_ref v h0 h1 k' (by omega)]
        simp only [Option.bind_some]
        rw [htl]
      simp only [truffleref06_number.l0]
      rw [if_neg (by omega), if_neg (by omega), if_neg (by omega), hj4]
  · suffices h : ∃ v ok, truffleref06_number.j1 (K + 2) t 0 (if (bl t).head? = some 45 then 1 else 0) = some (v, ok) ∧ (ok = true → numOk (bl t) = true) by
      obtain ⟨v, ok, h1, h2⟩ := h
      exact ⟨v, ok, h1, fun h => absurd h hok, h2⟩
    obtain ⟨f, hf1, hf2⟩ : ∃ f : Nat, (if (bl t).head? = some 45 then (1 : Int) else 0) = (f : Int) ∧ f ≤ t.size := by
      split
      · rename_i h
        refine ⟨1, rfl, ?_⟩
        rw [← bl_length]
        cases hb : bl t with
        | nil => rw [hb] at h; cases h
        | cons c r => simp
      · exact ⟨0, rfl, by omega⟩
    rw [hf1]
    have hj2 : ∀ b, ∃ v ok, truffleref06_number.j2 (K + 1) t 0 f b = some (v, ok) ∧ (ok = true → numOk (bl t) = true) := by
      intro b
      simp only [truffleref06_number.j2]
      cases b
      · rw [if_neg (by decide)]
        exact num_l0_any t f hs t.size K f 0 hf2 (by omega) (by omega)
      · rw [if_pos rfl]; exact ⟨0, false, rfl, fun h => (by cases h)⟩
    simp only [truffleref06_number.j1]
    split
    · exact hj2 true
    · exact hj2 _
end Go.Proofs.YtngcojabofkbjaaDoor.P
namespace Go.Proofs.YtngcojabofkbjaaDoor.P
open Go.RowKit Go.Proofs.YtngcojabofkbjaaDoorW.PrintWords Go.Proofs.YtngcojabofkbjaaDoorW.PrintLast Go.Proofs.YtngcojabofkbjaaDoorW.PrintMore
set_option linter.unusedVariables false
set_option linter.unusedSimpArgs false
theorem hex_ref0 : ∀ c : Fin 256, truffleref06_hex.f (c.val : Int) = some (hexI (UInt8.ofNat c.val)) := by decide +kernel
theorem hex_ref (c : UInt8) : truffleref06_hex.f (c.toNat : Int) = some (hexI c) := by
  have := hex_ref0 ⟨c.toNat, c.toNat_lt⟩
  simpa using this
theorem text_j4 (s : ByteArray) (k i : Nat) (acc : List UInt8) (d : UInt8) (ha : acc.length ≤ 1000000) (hi : i ≤ 1000000) : truffleref06_text.j4 (k + 1) s (numsOf acc) i (d.toNat : Int) false = truffleref06_text.l0 k s (numsOf (acc ++ [if d = 110 then 10 else d])) ((i + 2 : Nat) : Int) := by
  have hal : (numsOf acc).length < 140737488355328 := by unfold numsOf; rw [List.length_map]; omega
  simp only [truffleref06_text.j4]
  rw [if_neg (by decide), if_pos hal, if_pos hal, wrap_small _ (by omega) (by omega), show ((i : Int) + 2) = ((i + 2 : Nat) : Int) from by omega]
  by_cases h : d = 110
  · rw [if_pos (by rw [h]; rfl), if_pos h]; simp [numsOf]
  · rw [if_neg (show ¬ (d.toNat : Int) = 110 from fun e => h ((byte_num d 110 (by omega)).mp e)), if_neg h]; simp [numsOf]
theorem text_j3 (s : ByteArray) (k i : Nat) (acc : List UInt8) (d : UInt8) (ha : acc.length ≤ 1000000) (hi : i ≤ 1000000) : truffleref06_text.j3 (k + 2) s (numsOf acc) i (d.toNat : Int) false = if d = 34 ∨ d = 92 ∨ d = 110 then truffleref06_text.l0 k s (numsOf (acc ++ [if d = 110 then 10 else d])) ((i + 2 : Nat) : Int) else some (⟨#[]⟩, -1) := by
  simp only [truffleref06_text.j3]
  rw [if_neg (by decide)]
  have e34 : ((d.toNat : Int) = 34) ↔ d = 34 := byte_num d 34 (by omega)
  have e92 : ((d.toNat : Int) = 92) ↔ d = 92 := byte_num d 92 (by omega)
  have e110 : ((d.toNat : Int) = 110) ↔ d = 110 := byte_num d 110 (by omega)
  by_cases h110 : d = 110
  · rw [if_pos (e110.mpr h110), if_pos (.inr (.inr h110)), text_j4 s k i acc d ha hi]
  · rw [if_neg (fun e => h110 (e110.mp e))]
    by_cases h92 : d = 92
    · rw [if_pos (e92.mpr h92), if_pos (.inr (.inl h92)), text_j4 s k i acc d ha hi]
    · rw [if_neg (fun e => h92 (e92.mp e))]
      by_cases h34 : d = 34
      · have : ((d.toNat : Int) != 34) = false := by rw [h34]; rfl
        rw [this, if_pos (.inl h34), text_j4 s k i acc d ha hi]
      · have : ((d.toNat : Int) != 34) = true := by rw [bne_iff_ne]; exact fun e => h34 (e34.mp e)
        rw [this, if_neg (by rintro (h | h | h); exact h34 h; exact h92 h; exact h110 h)]
        simp only [truffleref06_text.j4, if_true]
theorem cn34 (c : UInt8) : ((c.toNat : Int) = 34) ↔ c = 34 := byte_num c 34 (by omega)
theorem cn92 (c : UInt8) : ((c.toNat : Int) = 92) ↔ c = 92 := byte_num c 92 (by omega)
theorem cn120 (c : UInt8) : ((c.toNat : Int) = 120) ↔ c = 120 := byte_num c 120 (by omega)
theorem cn127 (c : UInt8) : ((c.toNat : Int) = 127) ↔ c = 127 := byte_num c 127 (by omega)
theorem cn32 (c : UInt8) : ((c.toNat : Int) < 32) ↔ c < 32 := by rw [UInt8.lt_iff_toNat_lt]; show _ ↔ c.toNat < 32; omega
theorem wrc2 (i : Nat) (h : i ≤ 1000000) : wrap64 ((i : Int) + 2) = ((i + 2 : Nat) : Int) := by rw [wrap_small _ (by omega) (by omega)]; omega
theorem wrc3 (i : Nat) (h : i ≤ 1000000) : wrap64 ((i : Int) + 3) = ((i + 3 : Nat) : Int) := by rw [wrap_small _ (by omega) (by omega)]; omega
theorem wrc4 (i : Nat) (h : i ≤ 1000000) : wrap64 ((i : Int) + 4) = ((i + 4 : Nat) : Int) := by rw [wrap_small _ (by omega) (by omega)]; omega
set_option maxHeartbeats 8000000 in
theorem text_ref (s : ByteArray) (hs : s.size ≤ 1000000) : ∀ (d k i : Nat) (acc : List UInt8) (f : Nat), i ≤ s.size → s.size - i ≤ d → 6 * d + 6 < k → d < f → acc.length ≤ i →
    (∀ t n, strL f ((bl s).drop i) = some (t, n) → truffleref06_text.l0 k s (numsOf acc) i = some (⟨(acc ++ t).toArray⟩, ((i + n : Nat) : Int))) ∧
    (strL f ((bl s).drop i) = none → truffleref06_text.l0 k s (numsOf acc) i = some (⟨#[]⟩, -1)) := by
  intro d
  induction d with
  | zero =>
    intro k i acc f hi hd hk hf ha
    obtain ⟨k, rfl⟩ : ∃ m, k = m + 2 := ⟨k - 2, by omega⟩
    obtain ⟨f, rfl⟩ : ∃ m, f = m + 1 := ⟨f - 1, by omega⟩
    obtain rfl : i = s.size := by omega
    simp only [truffleref06_text.l0, truffleref06_text.j1]
    rw [if_neg (by omega), if_neg (by decide), if_pos (by omega), List.drop_of_length_le (by rw [bl_length]; omega)]
    simp [strL]
  | succ d ih =>
    intro k i acc f hi hd hk hf ha
    obtain ⟨k, rfl⟩ : ∃ m, k = m + 6 := ⟨k - 6, by omega⟩
    obtain ⟨f, rfl⟩ : ∃ m, f = m + 1 := ⟨f - 1, by omega⟩
    by_cases hlt : i < s.size
    · have hw := Aside0.mk (show wrap64 ((i : Int) + 1) = ((i + 1 : Nat) : Int) by rw [wrap_small _ (by omega) (by omega)]; omega)
      have hal : (numsOf acc).length < 140737488355328 := by unfold numsOf; rw [List.length_map]; omega
      rw [truffleref06_text.l0, if_pos (by omega), if_pos (by omega), drop_bl s i hlt, bt_nat s i hlt]
      generalize hc : s[i] = c
      rw [truffleref06_text.j1]
      obtain ⟨L, hL⟩ : ∃ L, strL (f + 1) (c :: (bl s).drop (i + 1)) = L := ⟨_, rfl⟩
      rw [hL]
      simp only [strL] at hL
      by_cases h34 : c = 34
      · have : ((c.toNat : Int) != 34) = false := by rw [h34]; rfl
        rw [this, if_neg (by decide), if_neg (by omega), hw.out]
        rw [if_pos h34] at hL
        subst hL
        refine ⟨fun t n h => ?_, fun h => by cases h⟩
        simp only [Option.some.injEq, Prod.mk.injEq] at h
        obtain ⟨rfl, rfl⟩ := h
        rw [strOf_nums, List.append_nil]
      · have : ((c.toNat : Int) != 34) = true := by rw [bne_iff_ne]; exact fun e => h34 ((cn34 c).mp e)
        rw [this, if_pos rfl, if_pos (by omega), if_pos (by omega), bt_nat s i hlt, hc]
        rw [if_neg h34] at hL
        by_cases h32 : c < 32
        · have h92 : ¬ c = 92 := by rintro rfl; revert h32; decide
          rw [if_pos ((cn32 c).mpr h32), truffleref06_text.j2, if_pos rfl]
          rw [if_neg h92, if_pos h32] at hL
          subst hL
          exact ⟨fun t n h => (by cases h), fun _ => rfl⟩
        · rw [if_neg (fun e => h32 ((cn32 c).mp e))]
          by_cases h127 : c = 127
          · have h92 : ¬ c = 92 := by rintro rfl; revert h127; decide
            have : ((c.toNat : Int) == 127) = true := by rw [h127]; rfl
            rw [this, truffleref06_text.j2, if_pos rfl]
            rw [if_neg h92, if_neg h32, if_pos h127] at hL
            subst hL
            exact ⟨fun t n h => (by cases h), fun _ => rfl⟩
          · have : ((c.toNat : Int) == 127) = false := by rw [beq_eq_false_iff_ne]; exact fun e => h127 ((cn127 c).mp e)
            rw [this, truffleref06_text.j2, if_neg (by decide)]
            by_cases h92 : c = 92
            · rw [if_pos ((cn92 c).mpr h92), hw.out]
              rw [if_pos h92] at hL
              by_cases hl1 : i + 1 < s.size
              · rw [if_neg (by omega), if_pos (by omega), if_pos (by omega), bt_nat s (i + 1) hl1]
                rw [drop_bl s (i + 1) hl1] at hL
                generalize hd2 : s[i + 1] = x at hL ⊢
                have HL := Aside0.mk hL
                clear hL
                have hw2 := Aside0.mk (wrc2 i (by omega))
                have hw3 := Aside0.mk (wrc3 i (by omega))
                have hw4 := Aside0.mk (wrc4 i (by omega))
                -- what stands behind the mark, by one step of the reader
                have hgo : ∀ m n k', markL (x :: (bl s).drop (i + 1 + 1)) = some (m, n) → 6 * d + 6 < k' →
                    (∀ t n', (strL f ((x :: (bl s).drop (i + 1 + 1)).drop n)).map (fun y => (m :: y.1, n + 1 + y.2)) = some (t, n') → truffleref06_text.l0 k' s (numsOf (acc ++ [m])) ((i + 1 + n : Nat) : Int) = some (⟨(acc ++ t).toArray⟩, ((i + n' : Nat) : Int))) ∧
                    ((strL f ((x :: (bl s).drop (i + 1 + 1)).drop n)).map (fun y => (m :: y.1, n + 1 + y.2)) = none → truffleref06_text.l0 k' s (numsOf (acc ++ [m])) ((i + 1 + n : Nat) : Int) = some (⟨#[]⟩, -1)) := by
                  intro m n k' hm hk'
                  obtain ⟨q1, q2⟩ := markL_le _ m n hm
                  rw [← hd2, ← drop_bl s (i + 1) hl1, List.drop_drop]
                  rw [← hd2, ← drop_bl s (i + 1) hl1, List.length_drop, bl_length] at q2
                  obtain ⟨g1, g2⟩ := ih k' (i + 1 + n) (acc ++ [m]) f (by omega) (by omega) hk' (by omega) (by simp; omega)
                  constructor
                  · intro t n' h
                    obtain ⟨⟨t', n2⟩, h3, h4⟩ := Option.map_eq_some_iff.mp h
                    simp only [Prod.mk.injEq] at h4
                    obtain ⟨rfl, rfl⟩ := h4
                    rw [g1 t' n2 h3, show i + 1 + n + n2 = i + (n + 1 + n2) from by omega]
                    simp only [List.append_assoc, List.singleton_append]
                  · intro h
                    exact g2 (Option.map_eq_none_iff.mp h)
                by_cases h120 : x = 120
                · rw [if_pos ((cn120 x).mpr h120), hw3.out, hw2.out]
                  have hno : ∀ k', truffleref06_text.j3 (k' + 2) s (numsOf acc) i (x.toNat : Int) false = some (⟨#[]⟩, -1) := by
                    intro k'
                    rw [text_j3 s k' i acc x (by omega) (by omega), if_neg (by rw [h120]; decide)]
                  by_cases hl3 : i + 3 < s.size
                  · have e2 := drop_bl s (i + 1 + 1) (by omega)
                    have e3 := drop_bl s (i + 1 + 1 + 1) (by omega)
                    rw [if_pos (by omega), if_pos (by omega), if_pos (by omega), bt_nat s (i + 2) (by omega), bt_nat s (i + 3) (by omega), hex_ref, hex_ref]
                    simp only [Option.bind_some]
                    have hm : markL (x :: (bl s).drop (i + 1 + 1)) = if 0 ≤ hexI s[i + 2] ∧ 0 ≤ hexI s[i + 3] then some (UInt8.ofNat ((hexI s[i + 2]).toNat * 16 + (hexI s[i + 3]).toNat), 3) else none := by
                      rw [e2, e3, h120]
                      simp only [markL]
                      rw [if_neg (by decide), if_neg (by decide), if_neg (by decide), if_pos trivial]
                    have ra := hexI_range s[i + 2]
                    have rb := hexI_range s[i + 3]
                    by_cases hA : 0 ≤ hexI s[i + 2]
                    · rw [if_pos hA, if_pos (by omega)]
                      by_cases hB : 0 ≤ hexI s[i + 3]
                      · rw [decide_eq_true hB, truffleref06_text.j3, if_pos rfl, hw2.out, hw3.out, if_pos (by omega), if_pos (by omega), bt_nat s (i + 2) (by omega), hex_ref, Option.bind_some, if_pos (by omega), if_pos (by omega), bt_nat s (i + 3) (by omega), hex_ref, Option.bind_some]
                        rw [if_pos hal, hw4.out]
                        rw [if_pos ⟨hA, hB⟩] at hm
                        have hv : wrap64 (wrap64 (16 * hexI s[i + 2]) + hexI s[i + 3]) % 256 = ((UInt8.ofNat ((hexI s[i + 2]).toNat * 16 + (hexI s[i + 3]).toNat)).toNat : Int) := by
                          rw [UInt8.toNat_ofNat', Nat.mod_eq_of_lt (by omega), wrap_small (16 * hexI s[i + 2]) (by omega) (by omega), wrap_small _ (by omega) (by omega)]; omega
                        rw [hv]
                        have hL := HL.out
                        rw [hm] at hL
                        subst hL
                        have := hgo _ _ (k + 2) hm (by omega)
                        rw [show i + 1 + 3 = i + 4 from by omega] at this
                        simpa [numsOf] using this
                      · rw [if_neg (fun h => hB h.2)] at hm
                        rw [decide_eq_false hB, show k + 3 = k + 1 + 2 from rfl, hno]
                        have hL := HL.out
                        rw [hm] at hL
                        subst hL
                        exact ⟨fun t n h => (by cases h), fun _ => rfl⟩
                    · rw [if_neg (fun h => hA h.1)] at hm
                      rw [if_neg hA, show k + 3 = k + 1 + 2 from rfl, hno]
                      have hL := HL.out
                      rw [hm] at hL
                      subst hL
                      exact ⟨fun t n h => (by cases h), fun _ => rfl⟩
                  · have hm : markL (x :: (bl s).drop (i + 1 + 1)) = none := by
                      rw [h120]
                      simp only [markL]
                      rw [if_neg (by decide), if_neg (by decide), if_neg (by decide), if_pos trivial]
                      have hl : ((bl s).drop (i + 1 + 1)).length ≤ 1 := by rw [List.length_drop, bl_length]; omega
                      match (bl s).drop (i + 1 + 1), hl with
                      | [], _ => rfl
                      | [_], _ => rfl
                      | _ :: _ :: _, h => simp at h
                    rw [if_neg (by omega), show k + 3 = k + 1 + 2 from rfl, hno]
                    have hL := HL.out
                    rw [hm] at hL
                    subst hL
                    exact ⟨fun t n h => (by cases h), fun _ => rfl⟩
                · rw [if_neg (fun e => h120 ((cn120 x).mp e)), show k + 3 = k + 1 + 2 from rfl, text_j3 s (k + 1) i acc x (by omega) (by omega)]
                  by_cases hx : x = 34 ∨ x = 92 ∨ x = 110
                  · have hm : markL (x :: (bl s).drop (i + 1 + 1)) = some (if x = 110 then 10 else x, 1) := by
                      simp only [markL]
                      rcases hx with rfl | rfl | rfl
                      · rw [if_pos rfl]; rfl
                      · rw [if_neg (by decide), if_pos rfl]; rfl
                      · rw [if_neg (by decide), if_neg (by decide), if_pos rfl]; rfl
                    rw [if_pos hx]
                    have hL := HL.out
                    rw [hm] at hL
                    subst hL
                    exact hgo _ _ (k + 1) hm (by omega)
                  · have hm : markL (x :: (bl s).drop (i + 1 + 1)) = none := by
                      simp only [markL]
                      rw [if_neg (fun h => hx (.inl h)), if_neg (fun h => hx (.inr (.inl h))), if_neg (fun h => hx (.inr (.inr h))), if_neg h120]
                    rw [if_neg hx]
                    have hL := HL.out
                    rw [hm] at hL
                    subst hL
                    exact ⟨fun t n h => (by cases h), fun _ => rfl⟩
              · have : (bl s).drop (i + 1) = [] := List.drop_of_length_le (by rw [bl_length]; omega)
                rw [if_pos (by omega)]
                rw [this] at hL
                subst hL
                exact ⟨fun t n h => (by cases h), fun _ => rfl⟩
            · rw [if_neg (fun e => h92 ((cn92 c).mp e)), if_pos hal, hw.out]
              rw [if_neg h92, if_neg h32, if_neg h127] at hL
              subst hL
              have hacc : numsOf acc ++ [(c.toNat : Int)] = numsOf (acc ++ [c]) := by simp [numsOf]
              rw [hacc]
              obtain ⟨g1, g2⟩ := ih (k + 3) (i + 1) (acc ++ [c]) f (by omega) (by omega) (by omega) (by omega) (by simp; omega)
              constructor
              · intro t n' h
                obtain ⟨⟨t', n2⟩, h3, h4⟩ := Option.map_eq_some_iff.mp h
                simp only [Prod.mk.injEq] at h4
                obtain ⟨rfl, rfl⟩ := h4
                rw [g1 t' n2 h3, show i + 1 + n2 = i + (n2 + 1) from by omega]
                simp only [List.append_assoc, List.singleton_append]
              · intro h
                exact g2 (Option.map_eq_none_iff.mp h)
    · obtain ⟨g1, g2⟩ := ih (k + 6) i acc (f + 1) hi (by omega) (by omega) (by omega) ha
      exact ⟨g1, g2⟩
end Go.Proofs.YtngcojabofkbjaaDoor.P
namespace Go.Proofs.YtngcojabofkbjaaDoor.P
open Go.RowKit Go.Proofs.YtngcojabofkbjaaDoorW.PrintWords Go.Proofs.YtngcojabofkbjaaDoorW.PrintLast Go.Proofs.YtngcojabofkbjaaDoorW.PrintMore
set_option linter.unusedVariables false
set_option linter.unusedSimpArgs false
theorem nameU_eq (c : UInt8) : nameU c = (decide (ofK (c.toNat : Int) = 0) || numU c) := rfl
theorem ext_take (s : ByteArray) (i n : Nat) : s.extract i (i + n) = ⟨(((bl s).drop i).take n).toArray⟩ := by
  apply eq_of_bl
  rw [extract_bl, show i + n - i = n from by omega]
theorem one_l0 (s : ByteArray) (hs : s.size ≤ 1000000) (i : Nat) : ∀ d k j : Nat, i ≤ j → j ≤ s.size → s.size - j ≤ d → d < k →
    truffleref06_one.l0 k s i j = some ((0 : Int), s.extract i (j + (((bl s).drop j).takeWhile nameU).length), (0 : Int), (i : Int), ((j + (((bl s).drop j).takeWhile nameU).length : Nat) : Int)) := by
  intro d
  induction d with
  | zero =>
    intro k j hij hj hd hk
    obtain ⟨k, rfl⟩ : ∃ m, k = m + 1 := ⟨k - 1, by omega⟩
    obtain rfl : j = s.size := by omega
    rw [List.drop_of_length_le (by rw [bl_length]; omega), truffleref06_one.l0, if_neg (by omega), if_pos (by omega), if_pos (by omega), if_pos (by omega)]
    simp
  | succ d ih =>
    intro k j hij hj hd hk
    obtain ⟨k, rfl⟩ : ∃ m, k = m + 1 := ⟨k - 1, by omega⟩
    by_cases hlt : j < s.size
    · have hw : wrap64 ((j : Int) + 1) = ((j + 1 : Nat) : Int) := by rw [wrap_small _ (by omega) (by omega)]; omega
      have hn := ih k (j + 1) (by omega) (by omega) (by omega) (by omega)
      rw [truffleref06_one.l0, if_pos (by omega), if_pos (by omega), bt_nat s j hlt, letter_ref, digit_ref, hw]
      simp only [Option.bind_some]
      rw [hn, drop_bl s j hlt, List.takeWhile_cons, nameU_eq]
      by_cases hl : ofK (s[j].toNat : Int) = 0
      · rw [if_pos (decide_eq_true hl), decide_eq_true hl, Bool.true_or, if_pos rfl, List.length_cons, show j + 1 + (((bl s).drop (j + 1)).takeWhile nameU).length = j + ((((bl s).drop (j + 1)).takeWhile nameU).length + 1) from by omega]
      · rw [if_neg (by rw [decide_eq_false hl]; decide), decide_eq_false hl, Bool.false_or]
        by_cases hu : numU s[j] = true
        · rw [if_pos hu, if_pos hu, List.length_cons, show j + 1 + (((bl s).drop (j + 1)).takeWhile nameU).length = j + ((((bl s).drop (j + 1)).takeWhile nameU).length + 1) from by omega]
        · rw [if_neg hu, if_neg hu, if_pos (by omega), if_pos (by omega), if_pos (by omega)]
          simp
    · exact ih (k + 1) j hij hj (by omega) (by omega)
theorem one_l1 (s : ByteArray) (hs : s.size ≤ 1000000) (i : Nat) : ∀ d k j : Nat, i ≤ j → j ≤ s.size → s.size - j ≤ d → d + s.size + 201 < k →
    (numOk (bl (s.extract i (j + (((bl s).drop j).takeWhile numU).length))) = true → truffleref06_one.l1 k s i j = some ((1 : Int), s.extract i (j + (((bl s).drop j).takeWhile numU).length), numV (bl (s.extract i (j + (((bl s).drop j).takeWhile numU).length))), (i : Int), ((j + (((bl s).drop j).takeWhile numU).length : Nat) : Int))) ∧
    (¬ numOk (bl (s.extract i (j + (((bl s).drop j).takeWhile numU).length))) = true → ∃ a b c e, truffleref06_one.l1 k s i j = some (a, b, c, e, -1)) := by
  have hfin : ∀ k j : Nat, i ≤ j → j ≤ s.size → s.size + 200 < k →
      (numOk (bl (s.extract i j)) = true → ((truffleref06_number.f k (s.extract i j)).bind fun bt => if bt.2 = true then some ((1 : Int), s.extract i j, bt.1, (i : Int), (j : Int)) else some (0, ⟨#[]⟩, 0, 0, -1)) = some ((1 : Int), s.extract i j, numV (bl (s.extract i j)), (i : Int), (j : Int))) ∧
      (¬ numOk (bl (s.extract i j)) = true → ((truffleref06_number.f k (s.extract i j)).bind fun bt => if bt.2 = true then some ((1 : Int), s.extract i j, bt.1, (i : Int), (j : Int)) else some (0, ⟨#[]⟩, 0, 0, -1)) = some (0, ⟨#[]⟩, 0, 0, -1)) := by
    intro k j hij hj hk
    have hz : (s.extract i j).size ≤ s.size := by rw [ByteArray.size_extract]; omega
    obtain ⟨v, ok, e, h1, h2⟩ := number_ref (s.extract i j) (by omega) k (by omega)
    rw [e]
    simp only [Option.bind_some]
    constructor
    · intro h; obtain ⟨rfl, rfl⟩ := h1 h; rw [if_pos rfl]
    · intro h; rw [if_neg (fun e => h (h2 e))]
  intro d
  induction d with
  | zero =>
    intro k j hij hj hd hk
    obtain ⟨k, rfl⟩ : ∃ m, k = m + 1 := ⟨k - 1, by omega⟩
    obtain rfl : j = s.size := by omega
    rw [List.drop_of_length_le (by rw [bl_length]; omega), truffleref06_one.l1, if_neg (by omega), if_pos (by omega), if_pos (by omega), if_pos (by omega)]
    simp only [Int.toNat_natCast, List.takeWhile_nil, List.length_nil, Nat.add_zero]
    obtain ⟨h1, h2⟩ := hfin k s.size hij (Nat.le_refl _) (by omega)
    exact ⟨h1, fun h => ⟨_, _, _, _, h2 h⟩⟩
  | succ d ih =>
    intro k j hij hj hd hk
    obtain ⟨k, rfl⟩ : ∃ m, k = m + 1 := ⟨k - 1, by omega⟩
    by_cases hlt : j < s.size
    · have hw : wrap64 ((j : Int) + 1) = ((j + 1 : Nat) : Int) := by rw [wrap_small _ (by omega) (by omega)]; omega
      have hn := ih k (j + 1) (by omega) (by omega) (by omega) (by omega)
      rw [truffleref06_one.l1, if_pos (by omega), if_pos (by omega), bt_nat s j hlt, digit_ref, hw]
      simp only [Option.bind_some]
      rw [drop_bl s j hlt, List.takeWhile_cons]
      by_cases hu : numU s[j] = true
      · rw [if_pos hu, if_pos hu, List.length_cons, show j + ((((bl s).drop (j + 1)).takeWhile numU).length + 1) = j + 1 + (((bl s).drop (j + 1)).takeWhile numU).length from by omega]
        exact hn
      · rw [if_neg hu, if_neg hu, if_pos (by omega), if_pos (by omega), if_pos (by omega)]
        simp only [Int.toNat_natCast, List.length_nil, Nat.add_zero]
        obtain ⟨h1, h2⟩ := hfin k j hij hj (by omega)
        exact ⟨h1, fun h => ⟨_, _, _, _, h2 h⟩⟩
    · exact ih (k + 1) j hij hj (by omega) (by omega)
theorem numU_of (c : UInt8) : numU c = (decide (ofK (c.toNat : Int) = 1) && !decide (c = 45)) := by
  have e45 := byte_num c 45 (by omega)
  unfold numU numB
  by_cases h : c = 45
  · have : ((c.toNat : Int) != 45) = false := by rw [h]; rfl
    rw [this, decide_eq_true h, Bool.and_false, Bool.not_true, Bool.and_false]
  · have : ((c.toNat : Int) != 45) = true := by rw [bne_iff_ne]; exact fun e => h (e45.mp e)
    rw [this, decide_eq_false h, Bool.and_true, Bool.not_false, Bool.and_true]
    rfl
theorem one_ref (s : ByteArray) (hs : s.size ≤ 1000000) (k i : Nat) (hi : i < s.size) (hk : 10 * s.size + 1000 < k) :
    (∀ kd t v n, lex1 ((bl s).drop i) = some (kd, t, v, n) → truffleref06_one.f k s i = some (kd, (⟨t.toArray⟩ : ByteArray), v, (i : Int), ((i + n : Nat) : Int))) ∧
    (lex1 ((bl s).drop i) = none → ∃ a b c d, truffleref06_one.f k s i = some (a, b, c, d, -1)) := by
  obtain ⟨k, rfl⟩ : ∃ m, k = m + 1 := ⟨k - 1, by omega⟩
  have hw : wrap64 ((i : Int) + 1) = ((i + 1 : Nat) : Int) := by rw [wrap_small _ (by omega) (by omega)]; omega
  unfold truffleref06_one.f
  rw [if_pos (by omega), if_pos (by omega), bt_nat s i hi, letter_ref, digit_ref, hw]
  simp only [Option.bind_some]
  have hd := drop_bl s i hi
  have hx := fun n => ext_take s i n
  rw [hd] at hx ⊢
  generalize hc : s[i] = c at hx
  generalize hr : (bl s).drop (i + 1) = r at hx
  have e34 : ((c.toNat : Int) = 34) ↔ c = 34 := cn34 c
  have e45 : ((c.toNat : Int) = 45) ↔ c = 45 := byte_num c 45 (by omega)
  rw [lex1_cons]
  by_cases h0 : ofK (c.toNat : Int) = 0
  · rw [if_pos (decide_eq_true h0), if_neg (by omega), if_pos h0]
    refine ⟨fun kd t v n h => ?_, fun h => (by cases h)⟩
    simp only [Option.some.injEq, Prod.mk.injEq] at h
    obtain ⟨rfl, rfl, rfl, rfl⟩ := h
    rw [one_l0 s hs i s.size (k + 1) (i + 1) (by omega) (by omega) (by omega) (by omega), hr]
    have e : i + 1 + (r.takeWhile nameU).length = i + runN nameU (c :: r) := by simp only [runN]; omega
    rw [e, hx]
  · have d0 : ¬ (decide (ofK (c.toNat : Int) = 0) = true) := by rw [decide_eq_false h0]; decide
    rw [if_neg d0, if_neg h0]
    by_cases h1 : ofK (c.toNat : Int) = 1
    · have hgo : (if numU c = true then truffleref06_one.j1 (k + 1) s i (c.toNat : Int) ((i + 1 : Nat) : Int) true else truffleref06_one.j1 (k + 1) s i (c.toNat : Int) ((i + 1 : Nat) : Int) ((c.toNat : Int) == 45)) = truffleref06_one.l1 k s i ((i + 1 : Nat) : Int) := by
        by_cases hu : numU c = true
        · rw [if_pos hu, truffleref06_one.j1, if_pos rfl]
        · have h45 : c = 45 := by
            rw [numU_of, decide_eq_true h1] at hu
            simpa using hu
          have : ((c.toNat : Int) == 45) = true := by rw [h45]; rfl
          rw [if_neg hu, this, truffleref06_one.j1, if_pos rfl]
      have n4 : ¬ ofK (c.toNat : Int) = 4 := by rw [h1]; decide
      rw [hgo, if_neg n4, if_pos h1]
      obtain ⟨g1, g2⟩ := one_l1 s hs i s.size k (i + 1) (by omega) (by omega) (by omega) (by omega)
      have e : i + 1 + (r.takeWhile numU).length = i + runN numU (c :: r) := by simp only [runN]; omega
      rw [hr, e, hx] at g1 g2
      by_cases hok : numOk ((c :: r).take (runN numU (c :: r))) = true
      · rw [if_pos hok]
        refine ⟨fun kd t v n h => ?_, fun h => (by cases h)⟩
        simp only [Option.some.injEq, Prod.mk.injEq] at h
        obtain ⟨rfl, rfl, rfl, rfl⟩ := h
        exact g1 hok
      · rw [if_neg hok]
        exact ⟨fun _ _ _ _ h => (by cases h), fun _ => g2 hok⟩
    · have hu : numU c = false := by rw [numU_of, decide_eq_false h1]; rfl
      have h45 : ((c.toNat : Int) == 45) = false := by
        rw [beq_eq_false_iff_ne]
        intro e
        exact h1 (by rw [e]; decide)
      have ft : ¬ (false = true) := by decide
      rw [hu, if_neg ft, if_neg h1, h45, truffleref06_one.j1, if_neg ft]
      by_cases h34 : c = 34
      · have h2 : ofK (c.toNat : Int) = 2 := by rw [h34]; decide
        have n4 : ¬ ofK (c.toNat : Int) = 4 := by rw [h2]; decide
        rw [if_pos (e34.mpr h34), if_neg n4, if_pos h2]
        unfold truffleref06_text.f
        rw [hw]
        obtain ⟨g1, g2⟩ := text_ref s hs (s.size - (i + 1)) k (i + 1) [] (r.length + 1) (by omega) (by omega) (by omega) (by rw [← hr, List.length_drop, bl_length]; omega) (by simp)
        rw [hr] at g1 g2
        constructor
        · intro kd t v n h
          obtain ⟨⟨t', n'⟩, h3, h5⟩ := Option.map_eq_some_iff.mp h
          simp only [Prod.mk.injEq] at h5
          obtain ⟨rfl, rfl, rfl, rfl⟩ := h5
          have := g1 t' n' h3
          rw [show numsOf [] = ([] : List Int) from rfl] at this
          rw [this]
          simp only [Option.bind_some, List.nil_append]
          rw [show i + 1 + n' = i + (n' + 1) from by omega]
        · intro h
          have := g2 (Option.map_eq_none_iff.mp h)
          rw [show numsOf [] = ([] : List Int) from rfl] at this
          rw [this]
          exact ⟨_, _, _, _, rfl⟩
      · rw [if_neg (fun e => h34 (e34.mp e)), signed_ref c k (by omega)]
        simp only [Option.bind_some]
        have hof : ofK (c.toNat : Int) = if 0 ≤ Lib.indexByte signsL c then 3 else 4 := by
          unfold ofK at h0 h1 ⊢
          have hcc : ((c.toNat : Int)).toNat.toUInt8 = c := by simp
          rw [hcc] at h0 h1 ⊢
          split at h0
          · exact absurd rfl h0
          · rename_i a1
            rw [if_neg a1] at h1
            split at h1
            · exact absurd rfl h1
            · rename_i a2
              rw [if_neg a1, if_neg a2, if_neg (fun e => h34 (e34.mp e))]
        by_cases hs3 : 0 ≤ Lib.indexByte signsL c
        · rw [if_pos hs3] at hof
          have n4 : ¬ ofK (c.toNat : Int) = 4 := by rw [hof]; decide
          have n2 : ¬ ofK (c.toNat : Int) = 2 := by rw [hof]; decide
          rw [decide_eq_true hs3, if_neg n4, if_neg n2, if_pos rfl, if_pos (by omega), if_pos (by omega), if_pos (by omega)]
          refine ⟨fun kd t v n h => ?_, fun h => (by cases h)⟩
          simp only [Option.some.injEq, Prod.mk.injEq] at h
          obtain ⟨rfl, rfl, rfl, rfl⟩ := h
          rw [Int.toNat_natCast, Int.toNat_natCast, hx 1]
          rfl
        · rw [if_neg hs3] at hof
          rw [decide_eq_false hs3, if_pos hof, if_neg ft]
          exact ⟨fun _ _ _ _ h => (by cases h), fun _ => ⟨_, _, _, _, rfl⟩⟩
theorem all_l0 (s : ByteArray) (hs : s.size ≤ 1000000) : ∀ (d k i m f : Nat) (acc : List TokS), i ≤ s.size → s.size - i ≤ d → d + 20 * s.size + 2000 < k → d < f → acc.length + m = 1000 →
    truffleref06_All.l0 k s acc i = some (endL s acc (lexL f m i ((bl s).drop i))) := by
  intro d
  induction d with
  | zero =>
    intro k i m f acc hi hd hk hf hm
    obtain ⟨k, rfl⟩ : ∃ m, k = m + 1 := ⟨k - 1, by omega⟩
    obtain ⟨f, rfl⟩ : ∃ m, f = m + 1 := ⟨f - 1, by omega⟩
    obtain rfl : i = s.size := by omega
    rw [truffleref06_All.l0, if_neg (by omega), List.drop_of_length_le (by rw [bl_length]; omega)]
    simp [lexL, endL]
  | succ d ih =>
    intro k i m f acc hi hd hk hf hm
    obtain ⟨k, rfl⟩ : ∃ m, k = m + 1 := ⟨k - 1, by omega⟩
    obtain ⟨f, rfl⟩ : ∃ m, f = m + 1 := ⟨f - 1, by omega⟩
    by_cases hlt : i < s.size
    · rw [truffleref06_All.l0, if_pos (by omega)]
      obtain ⟨h1, h2⟩ := one_ref s hs k i hlt (by omega)
      have hstep := lexL_step f m i s[i] ((bl s).drop (i + 1))
      rw [← drop_bl s i hlt] at hstep
      rw [hstep]
      cases hx : lex1 ((bl s).drop i) with
      | none =>
        obtain ⟨a, b, c, e, h⟩ := h2 hx
        rw [h]; rfl
      | some x =>
        obtain ⟨kd, t, v, n⟩ := x
        obtain ⟨n1, n2⟩ := lex1_le _ _ _ _ _ hx
        rw [List.length_drop, bl_length] at n2
        rw [h1 kd t v n hx]
        simp only [Option.bind_some]
        rw [if_neg (by omega)]
        by_cases hmm : m = 0
        · rw [if_pos (by omega), if_pos hmm]; rfl
        · have hsk := (blank_ref s (by omega) s.size (i + n) (by omega) (by omega)).1 k (by omega)
          have hle := skipN_le false ((bl s).drop (i + n))
          rw [List.length_drop, bl_length] at hle
          unfold truffleref06_blank.f
          rw [if_neg (by omega), if_pos (by omega), hsk, if_neg hmm]
          simp only [Option.bind_some, List.drop_drop]
          rw [ih k _ (m - 1) f _ (by omega) (by omega) (by omega) (by omega) (by simp; omega)]
          rw [show i + n + skipN false ((bl s).drop (i + n)) = i + (n + skipN false ((bl s).drop (i + n))) from by omega]
          cases lexL f (m - 1) (i + (n + skipN false ((bl s).drop (i + n)))) ((bl s).drop (i + (n + skipN false ((bl s).drop (i + n))))) with
          | inl ts => simp [endL, preE]
          | inr e => rfl
    · exact ih (k + 1) i m (f + 1) acc hi (by omega) (by omega) (by omega) hm
theorem all_ref (s : ByteArray) (K : Nat) (hs : s.size ≤ 1000000) (hK : 30 * s.size + 3000 < K) : truffleref06_All.f K s = some (allF s) := by
  unfold truffleref06_All.f allF
  by_cases h : s.size > 5000
  · rw [if_pos (by omega), if_pos h]
  · rw [if_neg (by omega), if_neg h]
    have hsk := (blank_ref s (by omega) s.size 0 (by omega) (by omega)).1 K (by omega)
    have hle := skipN_le false (bl s)
    rw [bl_length] at hle
    rw [List.drop_zero, Nat.zero_add] at hsk
    unfold truffleref06_blank.f
    rw [show ((0 : Nat) : Int) = 0 from rfl] at hsk
    rw [hsk]
    simp only [Option.bind_some]
    unfold allL
    exact all_l0 s hs s.size K (skipN false (bl s)) 1000 ((bl s).length + 1) [] hle (by omega) (by omega) (by rw [bl_length]; omega) (by simp)
end Go.Proofs.YtngcojabofkbjaaDoor.P
namespace Go.Proofs.YtngcojabofkbjaaDoor.P
open Go.RowKit Go.Proofs.YtngcojabofkbjaaDoorW.PrintWords Go.Proofs.YtngcojabofkbjaaDoorW.PrintLast Go.Proofs.YtngcojabofkbjaaDoorW.PrintMore
set_option linter.unusedVariables false
set_option linter.unusedSimpArgs false
theorem hexI_at : ∀ k : Fin 16, bt (⟨#[48, 49, 50, 51, 52, 53, 54, 55, 56, 57, 97, 98, 99, 100, 101, 102]⟩ : ByteArray) (k.val : Int) = ((hexB k.val).toNat : Int) := by decide
theorem nums_app (a b : List UInt8) : numsOf a ++ numsOf b = numsOf (a ++ b) := by simp [numsOf]
theorem nums_len (a : List UInt8) : (numsOf a).length = a.length := by simp [numsOf]
theorem quote_l0 (s : ByteArray) (hs : s.size ≤ 1000000) : ∀ d k i : Nat, i ≤ s.size → s.size - i ≤ d → 2 * d + 2 < k →
    truffleref06_Quote.l0 k s (numsOf (qAcc s i)) ⟨#[48, 49, 50, 51, 52, 53, 54, 55, 56, 57, 97, 98, 99, 100, 101, 102]⟩ i = some ⟨(quoteL (bl s)).toArray⟩ := by
  have hend : ∀ k, truffleref06_Quote.l0 (k + 1) s (numsOf (qAcc s s.size)) ⟨#[48, 49, 50, 51, 52, 53, 54, 55, 56, 57, 97, 98, 99, 100, 101, 102]⟩ (s.size : Int) = some ⟨(quoteL (bl s)).toArray⟩ := by
    intro k
    have hl := qAcc_length s s.size (Nat.le_refl _)
    have e : qAcc s s.size ++ [34] = quoteL (bl s) := by unfold qAcc quoteL; rw [List.take_of_length_le (by simp)]; rfl
    rw [truffleref06_Quote.l0, if_neg (by omega), if_pos (by rw [nums_len]; omega), show ([34] : List Int) = numsOf [34] from rfl, nums_app, e, strOf_nums]
  intro d
  induction d with
  | zero =>
    intro k i hi hd hk
    obtain ⟨k, rfl⟩ : ∃ m, k = m + 1 := ⟨k - 1, by omega⟩
    obtain rfl : i = s.size := by omega
    exact hend k
  | succ d ih =>
    intro k i hi hd hk
    obtain ⟨k, rfl⟩ : ∃ m, k = m + 2 := ⟨k - 2, by omega⟩
    by_cases hlt : i < s.size
    · have hw : wrap64 ((i : Int) + 1) = ((i + 1 : Nat) : Int) := by rw [wrap_small _ (by omega) (by omega)]; omega
      have hl := qAcc_length s i hi
      have hq := qAcc_succ s i hlt
      have hn0 := ih k (i + 1) (by omega) (by omega) (by omega)
      have hn1 := ih (k + 1) (i + 1) (by omega) (by omega) (by omega)
      have h4 := quote1_length s[i]
      have hbl : ∀ l : List UInt8, l = quote1 s[i] → (numsOf (qAcc s i)).length + (numsOf l).length < 140737488355328 := by
        intro l h; rw [h, nums_len, nums_len]; omega
      have hc := s[i].toNat_lt
      rw [hq] at hn0 hn1
      rw [truffleref06_Quote.l0, if_pos (by omega), if_pos (by omega), bt_nat s i hlt, hw]
      have hqn := quote1_nat s[i]
      generalize hcc : s[i] = c at *
      by_cases h10 : c.toNat = 10
      · have e : quote1 c = [92, 110] := by rw [hqn, if_neg (by omega), if_pos h10]
        rw [if_pos (by omega), show ([92, 110] : List Int) = numsOf [92, 110] from rfl]
        simp only [Option.bind_some]
        rw [if_pos (hbl _ e.symm), nums_app, ← e, hn1]
      · rw [if_neg (by omega)]
        by_cases hb : c.toNat < 32 ∨ 126 < c.toNat
        · have e : quote1 c = [92, 120, hexB (c.toNat / 16), hexB (c.toNat % 16)] := by rw [hqn, if_neg (by omega), if_neg h10, if_pos hb]
          have hj : truffleref06_Quote.j1 (k + 1) s (numsOf (qAcc s i)) ⟨#[48, 49, 50, 51, 52, 53, 54, 55, 56, 57, 97, 98, 99, 100, 101, 102]⟩ (i : Int) (c.toNat : Int) true = some ⟨(quoteL (bl s)).toArray⟩ := by
            have d1 : Int.tdiv (c.toNat : Int) 16 % 256 = ((c.toNat / 16 : Nat) : Int) := by rw [Int.tdiv_eq_ediv_of_nonneg (by omega)]; omega
            have d2 : Int.tmod (c.toNat : Int) 16 = ((c.toNat % 16 : Nat) : Int) := by rw [Int.tmod_eq_emod_of_nonneg (by omega)]; omega
            have z : (((⟨#[48, 49, 50, 51, 52, 53, 54, 55, 56, 57, 97, 98, 99, 100, 101, 102]⟩ : ByteArray).size : Nat) : Int) = 16 := rfl
            have x1 := hexI_at ⟨c.toNat / 16, by omega⟩
            have x2 := hexI_at ⟨c.toNat % 16, by omega⟩
            simp only at x1 x2
            rw [truffleref06_Quote.j1, if_pos rfl, d1, d2, z, if_pos (by omega), if_pos (by omega), if_pos (by omega), if_pos (by omega), x1, x2, hw]
            rw [show ([92, 120, ((hexB (c.toNat / 16)).toNat : Int), ((hexB (c.toNat % 16)).toNat : Int)] : List Int) = numsOf [92, 120, hexB (c.toNat / 16), hexB (c.toNat % 16)] from rfl]
            simp only [Option.bind_some]
            rw [if_pos (hbl _ e.symm), nums_app, ← e, hn0]
          by_cases h32 : c.toNat < 32
          · rw [if_pos (by omega), hj]
          · rw [if_neg (by omega), decide_eq_true (by omega), hj]
        · rw [if_neg (by omega), decide_eq_false (by omega), truffleref06_Quote.j1, if_neg (by decide), hw]
          by_cases h34 : c.toNat = 34
          · have e : quote1 c = [92, c] := by rw [hqn, if_pos (.inl h34)]
            rw [if_pos (by omega), show ([92, (c.toNat : Int)] : List Int) = numsOf [92, c] from rfl]
            simp only [Option.bind_some]
            rw [if_pos (hbl _ e.symm), nums_app, ← e, hn0]
          · rw [if_neg (by omega)]
            by_cases h92 : c.toNat = 92
            · have e : quote1 c = [92, c] := by rw [hqn, if_pos (.inr h92)]
              rw [if_pos (by omega), show ([92, (c.toNat : Int)] : List Int) = numsOf [92, c] from rfl]
              simp only [Option.bind_some]
              rw [if_pos (hbl _ e.symm), nums_app, ← e, hn0]
            · have e : quote1 c = [c] := by rw [hqn, if_neg (by omega), if_neg h10, if_neg hb]
              rw [if_neg (by omega), if_pos (by rw [nums_len]; omega), show ([(c.toNat : Int)] : List Int) = numsOf [c] from rfl, nums_app, ← e, hn0]
    · obtain rfl : i = s.size := by omega
      exact hend (k + 1)
theorem quote_ref (s : ByteArray) (hs : s.size ≤ 1000000) (K : Nat) (hK : 2 * s.size + 10 < K) : truffleref06_Quote.f K s = some ⟨(quoteL (bl s)).toArray⟩ := by
  unfold truffleref06_Quote.f
  exact quote_l0 s hs s.size K 0 (by omega) (by omega) (by omega)
end Go.Proofs.YtngcojabofkbjaaDoor.P
namespace Go.Proofs.YtngcojabofkbjaaDoor.P
open Go.RowKit Go.Proofs.YtngcojabofkbjaaDoorW.PrintWords Go.Proofs.YtngcojabofkbjaaDoorW.PrintLast Go.Proofs.YtngcojabofkbjaaDoorW.PrintMore
set_option linter.unusedVariables false
set_option linter.unusedSimpArgs false
theorem same_refl (xs : List TokS) (hx : xs.length ≤ 1000000) : ∀ d k i : Nat, i ≤ xs.length → xs.length - i ≤ d → d < k → truffleref06_Same.l0 k xs xs i = some true := by
  intro d
  induction d with
  | zero =>
    intro k i hi hd hk
    obtain ⟨k, rfl⟩ : ∃ m, k = m + 1 := ⟨k - 1, by omega⟩
    simp only [truffleref06_Same.l0]
    rw [if_neg (by omega)]
  | succ d ih =>
    intro k i hi hd hk
    obtain ⟨k, rfl⟩ : ∃ m, k = m + 1 := ⟨k - 1, by omega⟩
    simp only [truffleref06_Same.l0]
    by_cases hlt : i < xs.length
    · rw [if_pos (by omega), if_pos (by omega), if_pos (by omega)]
      simp only [beq_self_eq_true, Bool.not_true, Bool.or_false]
      rw [if_neg (by decide), wrap_small _ (by omega) (by omega)]
      exact ih k (i + 1) (by omega) (by omega) (by omega)
    · rw [if_neg (by omega)]
theorem same_self (xs : List TokS) (hx : xs.length ≤ 1000000) (k : Nat) (hk : xs.length < k) : truffleref06_Same.f k xs xs = some true := by
  unfold truffleref06_Same.f
  rw [if_pos rfl]
  exact same_refl xs hx xs.length k 0 (by omega) (by omega) hk
end Go.Proofs.YtngcojabofkbjaaDoor.P
namespace Go.Proofs.YtngcojabofkbjaaDoor.P
open Go.RowKit Go.Proofs.YtngcojabofkbjaaDoorW.PrintWords Go.Proofs.YtngcojabofkbjaaDoorW.PrintLast Go.Proofs.YtngcojabofkbjaaDoorW.PrintMore
set_option linter.unusedVariables false
set_option linter.unusedSimpArgs false
theorem tells_len (s : ByteArray) : (allF s).1.length ≤ 1000 := by
  unfold allF
  split
  · simp
  · rw [all_scan]
    cases h : scan 1000 0 (bl s) with
    | inr e => obtain ⟨p, e⟩ := e; simp [endL]
    | inl ts => have := scan_len _ _ _ _ _ (Nat.le_refl _) h; simp [endL]; omega
theorem TokenTells : trufflelaw06_TokenTells.Pure := by
  intro a0 a1 h0 h1
  unfold trufflelaw06_TokenTells.f
  rw [awake_true]
  simp only [Option.bind_some, if_true]
  by_cases g0 : (a0.size : Int) > 6000
  · exact ⟨1, by rw [decide_eq_true g0]; simp [trufflelaw06_TokenTells.j0]⟩
  · obtain ⟨K, hK⟩ : ∃ K : Nat, 1000000 < K := ⟨_, Nat.lt_succ_self _⟩
    refine ⟨K + 1, ?_⟩
    rw [decide_eq_false g0, trufflelaw06_TokenTells.j0, if_neg (by decide), all_ref a0 K (by omega) (by omega), quoteF a0 (by omega), quote_ref a0 (by omega) K (by omega), digitsF a1 h1, digits_ref a1 (wf_range h1).1 (wf_range h1).2 K (by omega)]
    unfold token_All.f
    simp only [Option.bind_some]
    rw [same_self (allF a0).1 (by have := tells_len a0; omega) K (by have := tells_len a0; omega)]
    simp
end Go.Proofs.YtngcojabofkbjaaDoor.P
namespace Go.Proofs.YtngcojabofkbjaaDoor.laidKit
open Go.RowKit
abbrev lst : List (String × DataW Unit) := [("math/bits.deBruijn32tab", Rows.laid_math_bits_deBruijn32tab), ("math/bits.deBruijn64tab", Rows.laid_math_bits_deBruijn64tab), ("internal/strconv.uint64pow10", Rows.laid_internal_strconv_uint64pow10), ("strconv.ErrRange", Rows.laid_strconv_ErrRange), ("strconv.ErrSyntax", Rows.laid_strconv_ErrSyntax)]
theorem gPow : Tryd.prog.globalNamed "internal/strconv.uint64pow10" = some 0 := by kernel_rfl
theorem gPowT : (Tryd.prog.globals[0]?).map (·.type) = some 120 := by kernel_rfl
theorem cPow : Tryd.prog.cellsOf 120 = 20 := by kernel_rfl
theorem cU64 : Tryd.prog.cellsOf 101 = 1 := by kernel_rfl
theorem gRng : Tryd.prog.globalNamed "strconv.ErrRange" = some 2 := by kernel_rfl
theorem gRngT : (Tryd.prog.globals[2]?).map (·.type) = some 67 := by kernel_rfl
theorem gSyn : Tryd.prog.globalNamed "strconv.ErrSyntax" = some 1 := by kernel_rfl
theorem gSynT : (Tryd.prog.globals[1]?).map (·.type) = some 67 := by kernel_rfl
theorem cErr : Tryd.prog.cellsOf 132 = 1 := by kernel_rfl
theorem cStr : Tryd.prog.cellsOf 9 = 1 := by kernel_rfl
theorem star : "*" ++ "errors.errorString" = "*errors.errorString" := by decide
theorem rowErr (u : TypeId) (h : Tryd.prog.typeName? 3 u = some "*errors.errorString") : u = 130 :=
  typeName_ptr_named (nm := "errors.errorString") (by rw [star]; kernel_rfl) (by kernel_rfl) (by decide) u (by rw [star]; exact h)
theorem pow_is : (Rows.laid_internal_strconv_uint64pow10 : DataW Unit) = Lib.tabData .u64 Lib.pow10Tab := by rfl
theorem ginv {W : World} (h : laidMetH Tryd.prog lst W) : P.GInv W := by
  rw [Go.MakeChecks.laidMetH_plain _ _ _ (by kernel_rfl)] at h
  have h3 := h.tail.tail
  have hp : Lib.TabIs Tryd.prog W "internal/strconv.uint64pow10" .u64 Lib.pow10Tab :=
    Lib.tabIs_of_head gPow gPowT Tryd.underlying120 Tryd.underlying101 cU64 cPow (by rw [← pow_is]; exact h3)
  obtain ⟨a1, s1, hv1, _, _, _⟩ := laid_sentinel h3.tail gRng gRngT Tryd.underlying67 rowErr Tryd.underlying130 Tryd.underlying132 rfl rfl Tryd.underlying9 cErr cStr
  obtain ⟨a2, s2, hv2, _, _, _⟩ := laid_sentinel h3.tail.tail gSyn gSynT Tryd.underlying67 rowErr Tryd.underlying130 Tryd.underlying132 rfl rfl Tryd.underlying9 cErr cStr
  refine ⟨⟨_, _, by have h0 := World.var?_cell gSyn hv2 0; simpa using h0⟩, ⟨_, _, by have h0 := World.var?_cell gRng hv1 0; simpa using h0⟩, hp, ?_⟩
  have c0 := hp.cell gPow 0 (by decide)
  exact World.block_lt_of_cell? W _ c0
abbrev synS : ByteArray := { data := #[105, 110, 118, 97, 108, 105, 100, 32, 115, 121, 110, 116, 97, 120] }
abbrev rngS : ByteArray := { data := #[118, 97, 108, 117, 101, 32, 111, 117, 116, 32, 111, 102, 32, 114, 97, 110, 103, 101] }
def cellsOfData : DataW Unit → Array Value
  | .agg l => (l.map fun
      | .lit (.int k n) => Value.int k n
      | _ => .nilIface).toArray
  | _ => #[]
noncomputable def low : Nat := (World.holding Tryd.prog default ⟨#[], #[], []⟩).heap.size
noncomputable def laidWorld (os : Os) : World :=
  let w0 := World.holding Tryd.prog os ⟨#[.cells #[.string synS] 132, .cells #[.string rngS] 132], #[], []⟩
  { w0 with heap := ((((w0.heap.modify 0 fun
      | .cells _ t frozen => .cells (cellsOfData Rows.laid_internal_strconv_uint64pow10) t frozen
      | o => o).modify 1 fun
      | .cells _ t frozen => .cells #[.iface 130 (.pointer (some ⟨low, 0, none⟩))] t frozen
      | o => o).modify 2 fun
      | .cells _ t frozen => .cells #[.iface 130 (.pointer (some ⟨low + 1, 0, none⟩))] t frozen
      | o => o).modify 4 fun
      | .cells _ t frozen => .cells (cellsOfData Rows.laid_math_bits_deBruijn32tab) t frozen
      | o => o).modify 5 fun
      | .cells _ t frozen => .cells (cellsOfData Rows.laid_math_bits_deBruijn64tab) t frozen
      | o => o }
theorem laid_met (os : Os) (args : Array Value) : laidMet Tryd.prog lst ((laidWorld os).forCall (fun _ _ => 0) ⟨#[], args, []⟩).memory :=
  laidMet_of_run' 8 (by kernel_rfl) (by kernel_rfl)
end Go.Proofs.YtngcojabofkbjaaDoor.laidKit
