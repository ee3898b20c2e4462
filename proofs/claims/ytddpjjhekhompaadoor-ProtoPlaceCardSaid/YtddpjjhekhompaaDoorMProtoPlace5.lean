/- Part 5 of what the law ProtoPlace leans on: contracts of the functions that it reaches, and plain lemmas; printed walks and words (by the kit's print, through wip/mp.py) and the session's own texts, one behind the other, what is not used left out (wip/prune.py). -/
import Derived.Deep.DeepWitnessRowRef
import Derived.Stop.LaidErr
import Derived.Lib.LaidTab
import Derived.LaidLaws
import Derived.MakeChecks
import Derived.Test.YtddpjjhekhompaaDoorRows
import Derived.Test.YtddpjjhekhompaaDoorMProtoPlace1
import Derived.Test.YtddpjjhekhompaaDoorMProtoPlace2
import Derived.Test.YtddpjjhekhompaaDoorMProtoPlace3
import Derived.Test.YtddpjjhekhompaaDoorMProtoPlace4
namespace Go.Proofs.YtddpjjhekhompaaDoor.P
open Go.RowKit Go.Proofs.YtddpjjhekhompaaDoorW.PrintWords Go.Proofs.YtddpjjhekhompaaDoorW.PrintLast Go.Proofs.YtddpjjhekhompaaDoorW.PrintMore
set_option linter.unusedVariables false
set_option linter.unusedSimpArgs false
mutual
def trufflelaw07_ProtoPlace.j0 : Nat → ByteArray → Bool → Bool → Option (Bool)
  | 0, _, _, _ => none
  | k + 1, x0, x3, x22 => if x22 = true then (some x3) else ((proto_Parse.f x0).bind fun bt154 => (if bt154.2.2.1 < 0 then (trufflelaw07_ProtoPlace.j1 k x0 bt154.2.2.1 bt154.2.2.2 true) else (if bt154.2.2.1 > (x0.size : Int) then (trufflelaw07_ProtoPlace.j1 k x0 bt154.2.2.1 bt154.2.2.2 true) else (if bt154.2.2.2 = 0 then (trufflelaw07_ProtoPlace.j1 k x0 bt154.2.2.1 bt154.2.2.2 (bt154.2.2.1 != (x0.size : Int))) else (trufflelaw07_ProtoPlace.j1 k x0 bt154.2.2.1 bt154.2.2.2 false)))))
def trufflelaw07_ProtoPlace.j1 : Nat → ByteArray → Int → Int → Bool → Option (Bool)
  | 0, _, _, _, _ => none
  | k + 1, x0, x5, x6, x47 => if x47 = true then (some false) else ((token_All.f x0).bind fun bt163 => (if x6 = 0 then (trufflelaw07_ProtoPlace.j2 k x0 x5 x6 bt163.1 bt163.2.2 true) else (trufflelaw07_ProtoPlace.j2 k x0 x5 x6 bt163.1 bt163.2.2 (bt163.2.2 != 0))))
def trufflelaw07_ProtoPlace.j2 : Nat → ByteArray → Int → Int → List (S34) → Int → Bool → Option (Bool)
  | 0, _, _, _, _, _, _ => none
  | k + 1, x0, x5, x6, x7, x9, x59 => if x59 = true then (some (x9 == x6)) else (trufflelaw07_ProtoPlace.l0 k x0 x5 x7 (x5 == (x0.size : Int)) 0)
def trufflelaw07_ProtoPlace.l0 : Nat → ByteArray → Int → List (S34) → Bool → Int → Option (Bool)
  | 0, _, _, _, _, _ => none
  | k + 1, x0, x5, x7, x10, x11 => if x11 < (x7.length : Int) then (if x10 = true then (trufflelaw07_ProtoPlace.l0 k x0 x5 x7 true (wrap64 (x11 + 1))) else (if 0 ≤ x11 then (trufflelaw07_ProtoPlace.l0 k x0 x5 x7 (((rd_T34 x7 x11).f3) == x5) (wrap64 (x11 + 1))) else (none))) else (if 0 ≤ x5 then (if x5 ≤ (x0.size : Int) then ((proto_Parse.f (x0.extract 0 (x5 : Int).toNat)).bind fun bt169 => (if x10 = true then (if bt169.2.2.2 = 0 then (some true) else (if bt169.2.2.2 = 4 then (some (bt169.2.2.1 == x5)) else (some false))) else (some false))) else (none)) else (none))
end
def trufflelaw07_ProtoPlace.f (k : Nat) (a0 : ByteArray) : Option (Bool) := (trufflelaw07_awake.f).bind fun t153 => (if t153 = true then (trufflelaw07_ProtoPlace.j0 k a0 t153 (decide ((a0.size : Int) > 1500))) else (trufflelaw07_ProtoPlace.j0 k a0 t153 true))
set_option maxHeartbeats 8000000 in
set_option maxRecDepth 100000 in
theorem trufflelaw07_ProtoPlace.calls (k : Nat) (a0 : ByteArray) (w : World) (hG : GInv w) (h : trufflelaw07_ProtoPlace.f k a0 = some true) :
    Calls Tryd.prog 3 #[.string a0] w fun e w' => e = .returned (.bool true) ∧ Below w.heap.size w w' := by
  have hu26 := Tryd.underlying26
  have HB := Aside0.mk (Below.refl w.heap.size w)
  have H : ((trufflelaw07_awake.f).bind fun t153 => (if t153 = true then (trufflelaw07_ProtoPlace.j0 k a0 t153 (decide ((a0.size : Int) > 1500))) else (trufflelaw07_ProtoPlace.j0 k a0 t153 true))) = some true := h
  clear h
  replace H := Option.bind_eq_some_iff.mp H
  obtain ⟨t153, A20, H⟩ := H
  replace H : (if t153 = true then (trufflelaw07_ProtoPlace.j0 k a0 t153 (decide ((a0.size : Int) > 1500))) else (trufflelaw07_ProtoPlace.j0 k a0 t153 true)) = some true := H
  have A2 := Aside0.mk A20
  clear A20
  have HC3 := Aside0.mk H
  clear H
  go_enter Tryd.func3, Tryd.ntmps3
  go_upto_region 2 with (first | ((with_reducible refine gate_callee (f := 4) rfl ?_); refine goesL_ (some 15) rfl rfl Tryd.func4 (by kernel_rfl) rfl #[] rfl (by (try simp only [List.map_toArray, List.map_cons, List.map_nil]); first | done | rfl | (simp only [List.length_drop, List.length_take]; rfl)) ?_; (with_reducible refine (trufflelaw07_awake.calls  t153 _ ?side1 A2.out).mono ?_); (case side1 => exact hG.below (by repeat (first | (with_reducible first | exact HB.out | apply below_alloc | apply pw_below_drewN | apply below_drew1) | exact HB.out))); rintro e w4 ⟨rfl, hb⟩; refine ⟨_, rfl, ?_⟩; have n0_ := Aside0.mk (below_step (by repeat (first | (with_reducible first | exact HB.out | apply below_alloc | apply pw_below_drewN | apply below_drew1) | exact HB.out)) hb); clear HB; have HB := n0_; clear n0_; (try clear hb); (try clear hb2); (try clear hk); (try clear hi)))
  (try simp only [Act.put, List.setIfInBounds_toArray, List.set_cons_zero, List.set_cons_succ])
  go_cut [22] (fun v22 wc => ∃ (kq : Nat) (x22_2 : Bool), v22 = .bool x22_2 ∧ Aside0 (trufflelaw07_ProtoPlace.j0 kq a0 t153 x22_2 = some true) ∧ Aside0 (kq ≤ k) ∧ Aside0 (Below w.heap.size w wc))
  case first =>
    have H := HC3.out
    clear HC3
    by_cases c5 : t153 = true
    · subst c5
      have H1 : (trufflelaw07_ProtoPlace.j0 k a0 true (decide ((a0.size : Int) > 1500))) = some true := by first | (rw [if_pos rfl] at H; exact H) | rfl
      clear H
      have H := H1
      clear H1
      have H' := Aside0.mk H
      clear H
      go_wp2
      go_meet
      case rel => exact ⟨_, (decide ((a0.size : Int) > 1500)), (by first | rfl | (simp; done) | (simp [*]; done)), H', ⟨by first | omega | exact Nat.le_refl _⟩, ⟨by repeat (first | (with_reducible first | exact HB.out | apply below_alloc | apply pw_below_drewN | apply below_drew1) | exact HB.out)⟩⟩
    · replace c5 := Bool.eq_false_iff.mpr c5
      subst c5
      have H1 : (trufflelaw07_ProtoPlace.j0 k a0 false true) = some true := by first | (rw [if_neg (show ¬ (false = true) by decide)] at H; exact H) | rfl
      clear H
      have H := H1
      clear H1
      have H' := Aside0.mk H
      clear H
      go_wp2
      go_meet
      case rel => exact ⟨_, (true), (by first | rfl | (simp; done) | (simp [*]; done)), H', ⟨by first | omega | exact Nat.le_refl _⟩, ⟨by repeat (first | (with_reducible first | exact HB.out | apply below_alloc | apply pw_below_drewN | apply below_drew1) | exact HB.out)⟩⟩
  case rest =>
    clear HC3
    try clear p2
    try clear c3
    try clear c4
    try clear c5
    obtain ⟨kq, x22_2, rfl, HA, HJ2, HB⟩ := hcut
    cases kq with
    | zero => exact absurd HA.out (by simp [trufflelaw07_ProtoPlace.j0])
    | succ kj2 =>
      have H := HA.out
      clear HA
      simp only [trufflelaw07_ProtoPlace.j0] at H
      by_cases c6 : x22_2 = true
      · subst c6
        have H1 : (some t153) = some true := by first | (rw [if_pos rfl] at H; exact H) | rfl
        clear H
        have H := H1
        clear H1
        have hv_ := Option.some.inj H
        go_wp2
        go_ret
        exact ⟨by first | rfl | (rw [hv_]; done) | (simp [hv_]; done) | (simp [← hv_]; done) | (simp [] <;> rfl) | (simp [*] <;> rfl), by repeat (first | (with_reducible first | exact HB.out | apply below_alloc | apply pw_below_drewN | apply below_drew1) | exact HB.out)⟩
      · replace c6 := Bool.eq_false_iff.mpr c6
        subst c6
        have H1 : ((proto_Parse.f a0).bind fun bt154 => (if bt154.2.2.1 < 0 then (trufflelaw07_ProtoPlace.j1 kj2 a0 bt154.2.2.1 bt154.2.2.2 true) else (if bt154.2.2.1 > (a0.size : Int) then (trufflelaw07_ProtoPlace.j1 kj2 a0 bt154.2.2.1 bt154.2.2.2 true) else (if bt154.2.2.2 = 0 then (trufflelaw07_ProtoPlace.j1 kj2 a0 bt154.2.2.1 bt154.2.2.2 (bt154.2.2.1 != (a0.size : Int))) else (trufflelaw07_ProtoPlace.j1 kj2 a0 bt154.2.2.1 bt154.2.2.2 false))))) = some true := by first | (rw [if_neg (show ¬ (false = true) by decide)] at H; exact H) | rfl
        clear H
        have H := H1
        clear H1
        replace H := Option.bind_eq_some_iff.mp H
        obtain ⟨⟨t154, t157, t160, t161⟩, A70, H⟩ := H
        replace H : (if t160 < 0 then (trufflelaw07_ProtoPlace.j1 kj2 a0 t160 t161 true) else (if t160 > (a0.size : Int) then (trufflelaw07_ProtoPlace.j1 kj2 a0 t160 t161 true) else (if t161 = 0 then (trufflelaw07_ProtoPlace.j1 kj2 a0 t160 t161 (t160 != (a0.size : Int))) else (trufflelaw07_ProtoPlace.j1 kj2 a0 t160 t161 false)))) = some true := H
        have A7 := Aside0.mk A70
        clear A70
        have HC8 := Aside0.mk H
        clear H
        go_upto_region 5 with (first | ((with_reducible refine gate_callee (f := 5) rfl ?_); refine goesL_ (some 26) rfl rfl Tryd.func5 (by kernel_rfl) rfl #[.string a0] rfl (by (try simp only [List.map_toArray, List.map_cons, List.map_nil]); first | done | rfl | (simp only [List.length_drop, List.length_take]; rfl)) ?_; (with_reducible refine (proto_Parse.calls a0 t154 t157 t160 t161 _ ?side1 A7.out).mono ?_); (case side1 => exact hG.below (by repeat (first | (with_reducible first | exact HB.out | apply below_alloc | apply pw_below_drewN | apply below_drew1) | exact HB.out))); rintro e w9 ⟨v155, v158, rfl, ho0, ho1, hb⟩; refine ⟨_, rfl, ?_⟩; have n0_ := Aside0.mk (Kd.R_lower ho0 (below_size (by repeat (first | (with_reducible first | exact HB.out | apply below_alloc | apply pw_below_drewN | apply below_drew1) | exact HB.out)))); have n1_ := Aside0.mk (Kd.R_lower ho1 (below_size (by repeat (first | (with_reducible first | exact HB.out | apply below_alloc | apply pw_below_drewN | apply below_drew1) | exact HB.out)))); have n2_ := Aside0.mk (below_step (by repeat (first | (with_reducible first | exact HB.out | apply below_alloc | apply pw_below_drewN | apply below_drew1) | exact HB.out)) hb); clear HB; have HO156 := n0_; have HO159 := n1_; have HB := n2_; clear n0_ n1_ n2_; (try clear hb); (try clear hb2); (try clear hk); (try clear hi); (try clear ho0); (try clear ho1)) | ((with_reducible refine gate_dst (N := 4) rfl ?_); (try (refine gate_guard (by rfl) ?_; dsimp only)); refine box_event ?hg (N := 4) ?hd (cs := #[.slice none 0 0, .slice none 0 0]) (t := 26) ?hr ?_; (case hd => rfl); (case hg => rfl); (case hr => first | (go_simp; done) | (go_simp; rfl)); intro gb162 hg w10 hbox hb; have n0_ := Aside0.mk (Kd.R_below (by (with_reducible repeat (first | apply Kd.R_alloc | apply Kd.R_drewN | apply Kd.R_drew)); exact HO156.out) hb); have n1_ := Aside0.mk (Kd.R_below (by (with_reducible repeat (first | apply Kd.R_alloc | apply Kd.R_drewN | apply Kd.R_drew)); exact HO159.out) hb); have n2_ := Aside0.mk (below_step (by repeat (first | (with_reducible first | exact HB.out | apply below_alloc | apply pw_below_drewN | apply below_drew1) | exact HB.out)) hb); have n3_ := Aside0.mk (hbox); have n4_ := Aside0.mk ((by rw [hg]; exact (below_size (by repeat (first | (with_reducible first | exact HB.out | apply below_alloc | apply pw_below_drewN | apply below_drew1) | exact HB.out))) : w.heap.size ≤ gb162)); have n5_ := Aside0.mk ((by rw [hg]; exact (below_size (by repeat (first | (with_reducible first | exact HB.out | apply below_alloc | apply pw_below_drewN | apply below_drew1) | exact HB.out))) : w.heap.size ≤ gb162)); clear HO156; clear HO159; clear HB; have HO156 := n0_; have HO159 := n1_; have HB := n2_; have BK162 := n3_; have GW162 := n4_; have GE162 := n5_; clear n0_ n1_ n2_ n3_ n4_ n5_; clear hb hbox hg; obtain ⟨Ao11, co11, eo11⟩ := Kd.R_slice HO156.out; subst eo11; have hcz12_0 : w10.cell? ⟨gb162, 0, none⟩ = some (.slice none 0 0) := (blk_cell BK162.out 0).trans rfl; have hcz12_1 : w10.cell? ⟨gb162, 1, none⟩ = some (.slice none 0 0) := (blk_cell BK162.out 1).trans rfl; have hfz12_0 := blk_frozen BK162.out 0; have hfz12_1 := blk_frozen BK162.out 1; obtain ⟨Ao13, co13, eo13⟩ := Kd.R_slice HO159.out; subst eo13))
        (try simp only [Act.put, List.setIfInBounds_toArray, List.set_cons_zero, List.set_cons_succ])
        go_cut [47] (fun v47 wc => ∃ (kq : Nat) (x47_7 : Bool), v47 = .bool x47_7 ∧ Aside0 (trufflelaw07_ProtoPlace.j1 kq a0 t160 t161 x47_7 = some true) ∧ Aside0 (kq ≤ kj2) ∧ Aside0 (Kd.R k40 40 wc w.heap.size (fun _ => True) (.slice Ao11 t154.length co11) t154) ∧ Aside0 (Kd.R k71 71 wc w.heap.size (fun _ => True) (.slice Ao13 t157.length co13) t157) ∧ Aside0 (wc.heap[gb162]? = some (.cells #[(.slice Ao11 t154.length co11), (.slice Ao13 t157.length co13)] 26 (0, 0))) ∧ Aside0 (Below w.heap.size w wc))
        case first =>
          have H := HC8.out
          clear HC8
          by_cases c14 : t160 < 0
          · rw [if_pos c14] at H
            have c14b0 : decide (t160 < 0) = true := decide_eq_true c14
            clear c14
            (first | rw [c14b0] | (simp only []; rw [c14b0]) | skip)
            have H' := Aside0.mk H
            clear H
            go_wp2
            go_meet
            case rel => exact ⟨_, (true), (by first | rfl | (simp; done) | (simp [*]; done)), H', ⟨by have := HJ2.out; first | omega | exact Nat.le_refl _⟩, ⟨by (with_reducible repeat (first | apply Kd.R_alloc | apply Kd.R_drewN | apply Kd.R_drew)); exact Kd.R_mono (Kd.R_far (p := ⟨gb162, 1, none⟩) (Kd.R_far (p := ⟨gb162, 0, none⟩) (Kd.R_types HO156.out BK162.out (by decide)) (fun _ hk => hk.2) (.slice Ao11 t154.length co11)) (fun _ hk => hk.2) (.slice Ao13 t157.length co13)) (fun _ hk => trivial)⟩, ⟨by (with_reducible repeat (first | apply Kd.R_alloc | apply Kd.R_drewN | apply Kd.R_drew)); exact Kd.R_mono (Kd.R_far (p := ⟨gb162, 1, none⟩) (Kd.R_far (p := ⟨gb162, 0, none⟩) (Kd.R_types HO159.out BK162.out (by decide)) (fun _ hk => hk.2) (.slice Ao11 t154.length co11)) (fun _ hk => hk.2) (.slice Ao13 t157.length co13)) (fun _ hk => trivial)⟩, ⟨by (with_reducible repeat (first | refine blk_drewN ?_ _ | refine blk_drew ?_ | refine blk_alloc ?_ _)); refine blk_put (cs := #[.slice Ao11 t154.length co11, .slice none 0 0]) ?_ 1 _ rfl; (with_reducible repeat (first | refine blk_drewN ?_ _ | refine blk_drew ?_ | refine blk_alloc ?_ _)); refine blk_put (cs := #[.slice none 0 0, .slice none 0 0]) ?_ 0 _ rfl; (with_reducible repeat (first | refine blk_drewN ?_ _ | refine blk_drew ?_ | refine blk_alloc ?_ _)); exact BK162.out⟩, ⟨by repeat (first | (with_reducible first | exact HB.out | apply below_alloc | apply pw_below_drewN | apply below_drew1 | refine below_set ?_ GE162.out) | exact HB.out)⟩⟩
          · rw [if_neg c14] at H
            have c14b0 : decide (t160 < 0) = false := decide_eq_false c14
            clear c14
            (first | rw [c14b0] | (simp only []; rw [c14b0]) | skip)
            by_cases c15 : t160 > (a0.size : Int)
            · rw [if_pos c15] at H
              have c15b0 : decide ((a0.size : Int) < t160) = true := decide_eq_true c15
              clear c15
              have H' := Aside0.mk H
              clear H
              go_wp2
              go_meet
              case rel => exact ⟨_, (true), (by first | rfl | (simp; done) | (simp [*]; done)), H', ⟨by have := HJ2.out; first | omega | exact Nat.le_refl _⟩, ⟨by (with_reducible repeat (first | apply Kd.R_alloc | apply Kd.R_drewN | apply Kd.R_drew)); exact Kd.R_mono (Kd.R_far (p := ⟨gb162, 1, none⟩) (Kd.R_far (p := ⟨gb162, 0, none⟩) (Kd.R_types HO156.out BK162.out (by decide)) (fun _ hk => hk.2) (.slice Ao11 t154.length co11)) (fun _ hk => hk.2) (.slice Ao13 t157.length co13)) (fun _ hk => trivial)⟩, ⟨by (with_reducible repeat (first | apply Kd.R_alloc | apply Kd.R_drewN | apply Kd.R_drew)); exact Kd.R_mono (Kd.R_far (p := ⟨gb162, 1, none⟩) (Kd.R_far (p := ⟨gb162, 0, none⟩) (Kd.R_types HO159.out BK162.out (by decide)) (fun _ hk => hk.2) (.slice Ao11 t154.length co11)) (fun _ hk => hk.2) (.slice Ao13 t157.length co13)) (fun _ hk => trivial)⟩, ⟨by (with_reducible repeat (first | refine blk_drewN ?_ _ | refine blk_drew ?_ | refine blk_alloc ?_ _)); refine blk_put (cs := #[.slice Ao11 t154.length co11, .slice none 0 0]) ?_ 1 _ rfl; (with_reducible repeat (first | refine blk_drewN ?_ _ | refine blk_drew ?_ | refine blk_alloc ?_ _)); refine blk_put (cs := #[.slice none 0 0, .slice none 0 0]) ?_ 0 _ rfl; (with_reducible repeat (first | refine blk_drewN ?_ _ | refine blk_drew ?_ | refine blk_alloc ?_ _)); exact BK162.out⟩, ⟨by repeat (first | (with_reducible first | exact HB.out | apply below_alloc | apply pw_below_drewN | apply below_drew1 | refine below_set ?_ GE162.out) | exact HB.out)⟩⟩
            · rw [if_neg c15] at H
              have c15b0 : decide ((a0.size : Int) < t160) = false := decide_eq_false c15
              clear c15
              by_cases c16 : t161 = 0
              · rw [if_pos c16] at H
                have c16b0 : (t161 == 0) = true := beq_iff_eq.mpr c16
                have c16b1 : (t161 != 0) = false := bne_eq_false_iff_eq.mpr c16
                clear c16
                have H' := Aside0.mk H
                clear H
                go_wp2
                go_meet
                case rel => exact ⟨_, ((t160 != (a0.size : Int))), (by first | rfl | (simp; done) | (simp [*]; done)), H', ⟨by have := HJ2.out; first | omega | exact Nat.le_refl _⟩, ⟨by (with_reducible repeat (first | apply Kd.R_alloc | apply Kd.R_drewN | apply Kd.R_drew)); exact Kd.R_mono (Kd.R_far (p := ⟨gb162, 1, none⟩) (Kd.R_far (p := ⟨gb162, 0, none⟩) (Kd.R_types HO156.out BK162.out (by decide)) (fun _ hk => hk.2) (.slice Ao11 t154.length co11)) (fun _ hk => hk.2) (.slice Ao13 t157.length co13)) (fun _ hk => trivial)⟩, ⟨by (with_reducible repeat (first | apply Kd.R_alloc | apply Kd.R_drewN | apply Kd.R_drew)); exact Kd.R_mono (Kd.R_far (p := ⟨gb162, 1, none⟩) (Kd.R_far (p := ⟨gb162, 0, none⟩) (Kd.R_types HO159.out BK162.out (by decide)) (fun _ hk => hk.2) (.slice Ao11 t154.length co11)) (fun _ hk => hk.2) (.slice Ao13 t157.length co13)) (fun _ hk => trivial)⟩, ⟨by (with_reducible repeat (first | refine blk_drewN ?_ _ | refine blk_drew ?_ | refine blk_alloc ?_ _)); refine blk_put (cs := #[.slice Ao11 t154.length co11, .slice none 0 0]) ?_ 1 _ rfl; (with_reducible repeat (first | refine blk_drewN ?_ _ | refine blk_drew ?_ | refine blk_alloc ?_ _)); refine blk_put (cs := #[.slice none 0 0, .slice none 0 0]) ?_ 0 _ rfl; (with_reducible repeat (first | refine blk_drewN ?_ _ | refine blk_drew ?_ | refine blk_alloc ?_ _)); exact BK162.out⟩, ⟨by repeat (first | (with_reducible first | exact HB.out | apply below_alloc | apply pw_below_drewN | apply below_drew1 | refine below_set ?_ GE162.out) | exact HB.out)⟩⟩
              · rw [if_neg c16] at H
                have c16b0 : (t161 == 0) = false := beq_eq_false_iff_ne.mpr c16
                have c16b1 : (t161 != 0) = true := bne_iff_ne.mpr c16
                have H' := Aside0.mk H
                clear H
                go_wp2
                go_meet
                case rel => exact ⟨_, (false), (by first | rfl | (simp; done) | (simp [*]; done)), H', ⟨by have := HJ2.out; first | omega | exact Nat.le_refl _⟩, ⟨by (with_reducible repeat (first | apply Kd.R_alloc | apply Kd.R_drewN | apply Kd.R_drew)); exact Kd.R_mono (Kd.R_far (p := ⟨gb162, 1, none⟩) (Kd.R_far (p := ⟨gb162, 0, none⟩) (Kd.R_types HO156.out BK162.out (by decide)) (fun _ hk => hk.2) (.slice Ao11 t154.length co11)) (fun _ hk => hk.2) (.slice Ao13 t157.length co13)) (fun _ hk => trivial)⟩, ⟨by (with_reducible repeat (first | apply Kd.R_alloc | apply Kd.R_drewN | apply Kd.R_drew)); exact Kd.R_mono (Kd.R_far (p := ⟨gb162, 1, none⟩) (Kd.R_far (p := ⟨gb162, 0, none⟩) (Kd.R_types HO159.out BK162.out (by decide)) (fun _ hk => hk.2) (.slice Ao11 t154.length co11)) (fun _ hk => hk.2) (.slice Ao13 t157.length co13)) (fun _ hk => trivial)⟩, ⟨by (with_reducible repeat (first | refine blk_drewN ?_ _ | refine blk_drew ?_ | refine blk_alloc ?_ _)); refine blk_put (cs := #[.slice Ao11 t154.length co11, .slice none 0 0]) ?_ 1 _ rfl; (with_reducible repeat (first | refine blk_drewN ?_ _ | refine blk_drew ?_ | refine blk_alloc ?_ _)); refine blk_put (cs := #[.slice none 0 0, .slice none 0 0]) ?_ 0 _ rfl; (with_reducible repeat (first | refine blk_drewN ?_ _ | refine blk_drew ?_ | refine blk_alloc ?_ _)); exact BK162.out⟩, ⟨by repeat (first | (with_reducible first | exact HB.out | apply below_alloc | apply pw_below_drewN | apply below_drew1 | refine below_set ?_ GE162.out) | exact HB.out)⟩⟩
        case rest =>
          clear HC8
          try clear c1
          try clear p2
          try clear c3
          try clear c4
          try clear c5
          try clear c6
          try clear c14
          try clear c14b0
          try clear c15
          try clear c15b0
          try clear c16
          try clear c16b0
          try clear c16b1
          try clear hcz12_0
          try clear hcz12_1
          try clear hfz12_0
          try clear hfz12_1
          try clear p2
          obtain ⟨kq, x47_7, rfl, HA, HJ7, HO_163000, HO_163001, BK162, HB⟩ := hcut
          cases kq with
          | zero => exact absurd HA.out (by simp [trufflelaw07_ProtoPlace.j1])
          | succ kj7 =>
            have H := HA.out
            clear HA
            simp only [trufflelaw07_ProtoPlace.j1] at H
            by_cases c17 : x47_7 = true
            · subst c17
              have H1 : (some false) = some true := by first | (rw [if_pos rfl] at H; exact H) | rfl
              clear H
              have H := H1
              clear H1
              exact absurd (Option.some.inj H) Bool.false_ne_true
            · replace c17 := Bool.eq_false_iff.mpr c17
              subst c17
              have H1 : ((token_All.f a0).bind fun bt163 => (if t161 = 0 then (trufflelaw07_ProtoPlace.j2 kj7 a0 t160 t161 bt163.1 bt163.2.2 true) else (trufflelaw07_ProtoPlace.j2 kj7 a0 t160 t161 bt163.1 bt163.2.2 (bt163.2.2 != 0)))) = some true := by first | (rw [if_neg (show ¬ (false = true) by decide)] at H; exact H) | rfl
              clear H
              have H := H1
              clear H1
              replace H := Option.bind_eq_some_iff.mp H
              obtain ⟨⟨t163, t164, t165⟩, A180, H⟩ := H
              replace H : (if t161 = 0 then (trufflelaw07_ProtoPlace.j2 kj7 a0 t160 t161 t163 t165 true) else (trufflelaw07_ProtoPlace.j2 kj7 a0 t160 t161 t163 t165 (t165 != 0))) = some true := H
              have A18 := Aside0.mk A180
              clear A180
              have HC19 := Aside0.mk H
              clear H
              go_upto_region 8 with (first | ((with_reducible refine gate_callee (f := 6) rfl ?_); refine goesL_ (some 50) rfl rfl Tryd.func6 (by kernel_rfl) rfl #[.string a0] rfl (by (try simp only [List.map_toArray, List.map_cons, List.map_nil]); first | done | rfl | (simp only [List.length_drop, List.length_take]; rfl)) ?_; (with_reducible refine (token_All.calls a0 t163 t164 t165 _ ?side1 A18.out).mono ?_); (case side1 => exact hG.below (by repeat (first | (with_reducible first | exact HB.out | apply below_alloc | apply pw_below_drewN | apply below_drew1 | refine below_set ?_ GE162.out) | exact HB.out))); rintro e w20 ⟨v166, rfl, ho0, hb⟩; refine ⟨_, rfl, ?_⟩; have n0_ := Aside0.mk (Kd.R_below (by (with_reducible repeat (first | apply Kd.R_alloc | apply Kd.R_drewN | apply Kd.R_drew)); exact HO_163000.out) hb); have n1_ := Aside0.mk (Kd.R_below (by (with_reducible repeat (first | apply Kd.R_alloc | apply Kd.R_drewN | apply Kd.R_drew)); exact HO_163001.out) hb); have n2_ := Aside0.mk (Kd.R_lower ho0 (below_size (by repeat (first | (with_reducible first | exact HB.out | apply below_alloc | apply pw_below_drewN | apply below_drew1 | refine below_set ?_ GE162.out) | exact HB.out)))); have n3_ := Aside0.mk (blk_below (g := gb162) (o := .cells #[.slice Ao11 t154.length co11, .slice Ao13 t157.length co13] 26 (0, 0)) (by (with_reducible repeat (first | refine blk_drewN ?_ _ | refine blk_drew ?_ | refine blk_alloc ?_ _)); exact BK162.out) hb); have n4_ := Aside0.mk (below_step (by repeat (first | (with_reducible first | exact HB.out | apply below_alloc | apply pw_below_drewN | apply below_drew1 | refine below_set ?_ GE162.out) | exact HB.out)) hb); clear HO_163000; clear HO_163001; clear BK162; clear HB; have HO_163000 := n0_; have HO_163001 := n1_; have HO167 := n2_; have BK162 := n3_; have HB := n4_; clear n0_ n1_ n2_ n3_ n4_; (try clear hb); (try clear hb2); (try clear hk); (try clear hi); (try clear ho0)))
              (try simp only [Act.put, List.setIfInBounds_toArray, List.set_cons_zero, List.set_cons_succ])
              go_cut [59] (fun v59 wc => ∃ (kq : Nat) (x59_18 : Bool), v59 = .bool x59_18 ∧ Aside0 (trufflelaw07_ProtoPlace.j2 kq a0 t160 t161 t163 t165 x59_18 = some true) ∧ Aside0 (kq ≤ kj7) ∧ Aside0 (Kd.R k34 34 wc w.heap.size (fun _ => True) v166 t163) ∧ Aside0 (Kd.R k40 40 wc w.heap.size (fun _ => True) (.slice Ao11 t154.length co11) t154) ∧ Aside0 (Kd.R k71 71 wc w.heap.size (fun _ => True) (.slice Ao13 t157.length co13) t157) ∧ Aside0 (wc.heap[gb162]? = some (.cells #[(.slice Ao11 t154.length co11), (.slice Ao13 t157.length co13)] 26 (0, 0))) ∧ Aside0 (Below w.heap.size w wc))
              case first =>
                have H := HC19.out
                clear HC19
                by_cases c21 : t161 = 0
                · rw [if_pos c21] at H
                  have c21b0 : (t161 == 0) = true := beq_iff_eq.mpr c21
                  have c21b1 : (t161 != 0) = false := bne_eq_false_iff_eq.mpr c21
                  clear c21
                  (first | rw [c21b0] | (simp only []; rw [c21b0]) | skip)
                  have H' := Aside0.mk H
                  clear H
                  go_wp2
                  go_meet
                  case rel => exact ⟨_, (true), (by first | rfl | (simp; done) | (simp [*]; done)), H', ⟨by have := HJ2.out; have := HJ7.out; first | omega | exact Nat.le_refl _⟩, ⟨by (with_reducible repeat (first | apply Kd.R_alloc | apply Kd.R_drewN | apply Kd.R_drew)); exact HO167.out⟩, ⟨by (with_reducible repeat (first | apply Kd.R_alloc | apply Kd.R_drewN | apply Kd.R_drew)); exact HO_163000.out⟩, ⟨by (with_reducible repeat (first | apply Kd.R_alloc | apply Kd.R_drewN | apply Kd.R_drew)); exact HO_163001.out⟩, ⟨by (with_reducible repeat (first | refine blk_drewN ?_ _ | refine blk_drew ?_ | refine blk_alloc ?_ _)); exact BK162.out⟩, ⟨by repeat (first | (with_reducible first | exact HB.out | apply below_alloc | apply pw_below_drewN | apply below_drew1 | refine below_set ?_ GE162.out) | exact HB.out)⟩⟩
                · rw [if_neg c21] at H
                  have c21b0 : (t161 == 0) = false := beq_eq_false_iff_ne.mpr c21
                  have c21b1 : (t161 != 0) = true := bne_iff_ne.mpr c21
                  (first | rw [c21b0] | (simp only []; rw [c21b0]) | skip)
                  have H' := Aside0.mk H
                  clear H
                  go_wp2
                  go_meet
                  case rel => exact ⟨_, ((t165 != 0)), (by first | rfl | (simp; done) | (simp [*]; done)), H', ⟨by have := HJ2.out; have := HJ7.out; first | omega | exact Nat.le_refl _⟩, ⟨by (with_reducible repeat (first | apply Kd.R_alloc | apply Kd.R_drewN | apply Kd.R_drew)); exact HO167.out⟩, ⟨by (with_reducible repeat (first | apply Kd.R_alloc | apply Kd.R_drewN | apply Kd.R_drew)); exact HO_163000.out⟩, ⟨by (with_reducible repeat (first | apply Kd.R_alloc | apply Kd.R_drewN | apply Kd.R_drew)); exact HO_163001.out⟩, ⟨by (with_reducible repeat (first | refine blk_drewN ?_ _ | refine blk_drew ?_ | refine blk_alloc ?_ _)); exact BK162.out⟩, ⟨by repeat (first | (with_reducible first | exact HB.out | apply below_alloc | apply pw_below_drewN | apply below_drew1 | refine below_set ?_ GE162.out) | exact HB.out)⟩⟩
              case rest =>
                clear HC19
                try clear c1
                try clear c2
                try clear p2
                try clear c3
                try clear c4
                try clear c5
                try clear c6
                try clear c14
                try clear c14b0
                try clear c15
                try clear c15b0
                try clear c16
                try clear c16b0
                try clear c16b1
                try clear c17
                try clear c21
                try clear c21b0
                try clear c21b1
                try clear hcz12_0
                try clear hcz12_1
                try clear hfz12_0
                try clear hfz12_1
                try clear p2
                obtain ⟨kq, x59_18, rfl, HA, HJ18, HO_7, HO_163000, HO_163001, BK162, HB⟩ := hcut
                cases kq with
                | zero => exact absurd HA.out (by simp [trufflelaw07_ProtoPlace.j2])
                | succ kj18 =>
                  have H := HA.out
                  clear HA
                  simp only [trufflelaw07_ProtoPlace.j2] at H
                  by_cases c22 : x59_18 = true
                  · subst c22
                    have H1 : (some (t165 == t161)) = some true := by first | (rw [if_pos rfl] at H; exact H) | rfl
                    clear H
                    have H := H1
                    clear H1
                    have hv_ := Option.some.inj H
                    go_wp2
                    go_ret
                    exact ⟨by first | rfl | (rw [hv_]; done) | (simp [hv_]; done) | (simp [← hv_]; done) | (simp [] <;> rfl) | (simp [*] <;> rfl), by repeat (first | (with_reducible first | exact HB.out | apply below_alloc | apply pw_below_drewN | apply below_drew1 | refine below_set ?_ GE162.out) | exact HB.out)⟩
                  · replace c22 := Bool.eq_false_iff.mpr c22
                    subst c22
                    have H1 : (trufflelaw07_ProtoPlace.l0 kj18 a0 t160 t163 (t160 == (a0.size : Int)) 0) = some true := by first | (rw [if_neg (show ¬ (false = true) by decide)] at H; exact H) | rfl
                    clear H
                    have H := H1
                    clear H1
                    have H' := Aside0.mk H
                    clear H
                    go_wp2
                    go_loopg [10, 11] kj18 (fun kq v10 v11 w' => ∃ (x10_4 : Bool) (x11_4 : Int), v10 = .bool x10_4 ∧ v11 = .int .i64 x11_4 ∧ Aside0 (trufflelaw07_ProtoPlace.l0 kq a0 t160 t163 x10_4 x11_4 = some true) ∧ Aside0 (kq ≤ kj18) ∧ Aside0 (Kd.R k34 34 w' w.heap.size (fun _ => True) v166 t163) ∧ Aside0 (Kd.R k40 40 w' w.heap.size (fun _ => True) (.slice Ao11 t154.length co11) t154) ∧ Aside0 (Kd.R k71 71 w' w.heap.size (fun _ => True) (.slice Ao13 t157.length co13) t157) ∧ Aside0 (w'.heap[gb162]? = some (.cells #[(.slice Ao11 t154.length co11), (.slice Ao13 t157.length co13)] 26 (0, 0))) ∧ Aside0 (Below w.heap.size w w'))
                    case atStart => exact ⟨((t160 == (a0.size : Int))), (0), (by first | rfl | (simp; done) | (simp [*]; done)), (by first | rfl | (simp; done) | (simp [*]; done)), H', ⟨Nat.le_refl _⟩, ⟨by (with_reducible repeat (first | apply Kd.R_alloc | apply Kd.R_drewN | apply Kd.R_drew)); exact HO_7.out⟩, ⟨by (with_reducible repeat (first | apply Kd.R_alloc | apply Kd.R_drewN | apply Kd.R_drew)); exact HO_163000.out⟩, ⟨by (with_reducible repeat (first | apply Kd.R_alloc | apply Kd.R_drewN | apply Kd.R_drew)); exact HO_163001.out⟩, ⟨by (with_reducible repeat (first | refine blk_drewN ?_ _ | refine blk_drew ?_ | refine blk_alloc ?_ _)); exact BK162.out⟩, ⟨by repeat (first | (with_reducible first | exact HB.out | apply below_alloc | apply pw_below_drewN | apply below_drew1 | refine below_set ?_ GE162.out) | exact HB.out)⟩⟩
                    case round =>
                      clear H'
                      try clear c1
                      try clear c2
                      try clear p2
                      try clear c3
                      try clear c4
                      try clear c5
                      try clear c6
                      try clear c14
                      try clear c14b0
                      try clear c15
                      try clear c15b0
                      try clear c16
                      try clear c16b0
                      try clear c16b1
                      try clear c17
                      try clear c21
                      try clear c21b0
                      try clear c21b1
                      try clear c22
                      try clear hcz12_0
                      try clear hcz12_1
                      try clear hfz12_0
                      try clear hfz12_1
                      try clear p2
                      obtain ⟨x10_4, x11_4, rfl, rfl, HA, HK4, HO_7, HO_163000, HO_163001, BK162, HB⟩ := hrel
                      cases gk with
                      | zero => exact absurd HA.out (by simp [trufflelaw07_ProtoPlace.l0])
                      | succ k4 =>
                        have H := HA.out
                        clear HA
                        simp only [trufflelaw07_ProtoPlace.l0] at H
                        by_cases c23 : x11_4 < (t163.length : Int)
                        · rw [if_pos c23] at H
                          have c23b0 : decide (x11_4 < (t163.length : Int)) = true := decide_eq_true c23
                          clear c23
                          by_cases c24 : x10_4 = true
                          · subst c24
                            have H1 : (trufflelaw07_ProtoPlace.l0 k4 a0 t160 t163 true (wrap64 (x11_4 + 1))) = some true := by first | (rw [if_pos rfl] at H; exact H) | rfl
                            clear H
                            have H := H1
                            clear H1
                            have H' := Aside0.mk H
                            clear H
                            obtain ⟨Ao25, co25, eo25⟩ := Kd.R_slice HO_7.out
                            subst eo25
                            go_wp2
                            go_roundg k4
                            case measure => have := HJ2.out; have := HJ7.out; have := HJ18.out; have := HK4.out; omega
                            case rel => exact ⟨(true), (wrap64 (x11_4 + 1)), (by first | rfl | (simp; done) | (simp [*]; done)), (by first | rfl | (simp; done) | (simp [*]; done)), H', ⟨by have := HJ2.out; have := HJ7.out; have := HJ18.out; have := HK4.out; omega⟩, ⟨by (with_reducible repeat (first | apply Kd.R_alloc | apply Kd.R_drewN | apply Kd.R_drew)); exact HO_7.out⟩, ⟨by (with_reducible repeat (first | apply Kd.R_alloc | apply Kd.R_drewN | apply Kd.R_drew)); exact HO_163000.out⟩, ⟨by (with_reducible repeat (first | apply Kd.R_alloc | apply Kd.R_drewN | apply Kd.R_drew)); exact HO_163001.out⟩, ⟨by (with_reducible repeat (first | refine blk_drewN ?_ _ | refine blk_drew ?_ | refine blk_alloc ?_ _)); exact BK162.out⟩, ⟨by repeat (first | (with_reducible first | exact HB.out | apply below_alloc | apply pw_below_drewN | apply below_drew1 | refine below_set ?_ GE162.out) | exact HB.out)⟩⟩
                          · replace c24 := Bool.eq_false_iff.mpr c24
                            subst c24
                            have H1 : (if 0 ≤ x11_4 then (trufflelaw07_ProtoPlace.l0 k4 a0 t160 t163 (((rd_T34 t163 x11_4).f3) == t160) (wrap64 (x11_4 + 1))) else (none)) = some true := by first | (rw [if_neg (show ¬ (false = true) by decide)] at H; exact H) | rfl
                            clear H
                            have H := H1
                            clear H1
                            by_cases c26 : 0 ≤ x11_4
                            · rw [if_pos c26] at H
                              have c26b0 : decide (0 ≤ x11_4) = true := decide_eq_true c26
                              clear c26
                              have H' := Aside0.mk H
                              clear H
                              obtain ⟨Ao27, co27, eo27⟩ := Kd.R_slice HO_7.out
                              subst eo27
                              have p168 : 0 ≤ (x11_4 : Int) := of_decide_eq_true (by first | (with_reducible assumption) | assumption)
                              have q168 : x11_4 < (t163.length : Int) := of_decide_eq_true (by first | (with_reducible assumption) | assumption)
                              obtain ⟨ad168, e168, hx168_0, hx168_1, hx168_2, hx168_3⟩ := at_T34 (Kd.R_reads' HO_7.out).2.2 x11_4 p168 q168
                              cases e168
                              replace p168 := eq_true p168
                              replace q168 := eq_true q168
                              go_wp2
                              go_roundg k4
                              case measure => have := HJ2.out; have := HJ7.out; have := HJ18.out; have := HK4.out; omega
                              case rel => exact ⟨((((rd_T34 t163 x11_4).f3) == t160)), (wrap64 (x11_4 + 1)), (by first | rfl | (simp; done) | (simp [*]; done)), (by first | rfl | (simp; done) | (simp [*]; done)), H', ⟨by have := HJ2.out; have := HJ7.out; have := HJ18.out; have := HK4.out; omega⟩, ⟨by (with_reducible repeat (first | apply Kd.R_alloc | apply Kd.R_drewN | apply Kd.R_drew)); exact HO_7.out⟩, ⟨by (with_reducible repeat (first | apply Kd.R_alloc | apply Kd.R_drewN | apply Kd.R_drew)); exact HO_163000.out⟩, ⟨by (with_reducible repeat (first | apply Kd.R_alloc | apply Kd.R_drewN | apply Kd.R_drew)); exact HO_163001.out⟩, ⟨by (with_reducible repeat (first | refine blk_drewN ?_ _ | refine blk_drew ?_ | refine blk_alloc ?_ _)); exact BK162.out⟩, ⟨by repeat (first | (with_reducible first | exact HB.out | apply below_alloc | apply pw_below_drewN | apply below_drew1 | refine below_set ?_ GE162.out) | exact HB.out)⟩⟩
                            · rw [if_neg c26] at H
                              exact absurd H (by simp)
                        · rw [if_neg c23] at H
                          have c23b0 : decide (x11_4 < (t163.length : Int)) = false := decide_eq_false c23
                          clear c23
                          by_cases c28 : 0 ≤ t160
                          · rw [if_pos c28] at H
                            have c28b0 := eq_true c28
                            have c28b1 : decide (0 ≤ t160) = true := decide_eq_true c28
                            clear c28
                            by_cases c29 : t160 ≤ (a0.size : Int)
                            · rw [if_pos c29] at H
                              have c29b0 := eq_true c29
                              have c29b1 : decide (t160 ≤ (a0.size : Int)) = true := decide_eq_true c29
                              clear c29
                              replace H := Option.bind_eq_some_iff.mp H
                              obtain ⟨⟨t169, t172, t175, t176⟩, A300, H⟩ := H
                              replace H : (if x10_4 = true then (if t176 = 0 then (some true) else (if t176 = 4 then (some (t175 == t160)) else (some false))) else (some false)) = some true := H
                              have A30 := Aside0.mk A300
                              clear A300
                              by_cases c31 : x10_4 = true
                              · subst c31
                                have H1 : (if t176 = 0 then (some true) else (if t176 = 4 then (some (t175 == t160)) else (some false))) = some true := by first | (rw [if_pos rfl] at H; exact H) | rfl
                                clear H
                                have H := H1
                                clear H1
                                by_cases c32 : t176 = 0
                                · rw [if_pos c32] at H
                                  have c32b0 : (t176 == 0) = true := beq_iff_eq.mpr c32
                                  have c32b1 : (t176 != 0) = false := bne_eq_false_iff_eq.mpr c32
                                  clear c32
                                  clear H
                                  obtain ⟨Ao33, co33, eo33⟩ := Kd.R_slice HO_7.out
                                  subst eo33
                                  go_wp2_with (first | ((with_reducible refine gate_callee (f := 5) rfl ?_); refine goesL_ (some 87) rfl rfl Tryd.func5 (by kernel_rfl) rfl #[.string (a0.extract 0 (t160 : Int).toNat)] rfl (by (try simp only [List.map_toArray, List.map_cons, List.map_nil]); first | done | rfl | (simp only [List.length_drop, List.length_take]; rfl)) ?_; (with_reducible refine (proto_Parse.calls (a0.extract 0 (t160 : Int).toNat) t169 t172 t175 t176 _ ?side1 A30.out).mono ?_); (case side1 => exact hG.below (by repeat (first | (with_reducible first | exact HB.out | apply below_alloc | apply pw_below_drewN | apply below_drew1 | refine below_set ?_ GE162.out) | exact HB.out))); rintro e w34 ⟨v170, v173, rfl, ho0, ho1, hb⟩; refine ⟨_, rfl, ?_⟩; have n0_ := Aside0.mk (Kd.R_below (by (with_reducible repeat (first | apply Kd.R_alloc | apply Kd.R_drewN | apply Kd.R_drew)); exact HO_7.out) hb); have n1_ := Aside0.mk (Kd.R_elder' (by (with_reducible repeat (first | apply Kd.R_alloc | apply Kd.R_drewN | apply Kd.R_drew)); exact HO_163000.out) (Kd.R_base ho0) hb); have n2_ := Aside0.mk (Kd.R_elder' (by (with_reducible repeat (first | apply Kd.R_alloc | apply Kd.R_drewN | apply Kd.R_drew)); exact HO_163001.out) (Kd.R_base ho1) hb); have n3_ := Aside0.mk (Kd.R_lower (Kd.R_new' ho0 (Kd.R_lt (by (with_reducible repeat (first | apply Kd.R_alloc | apply Kd.R_drewN | apply Kd.R_drew)); exact HO_163000.out))) (below_size (by repeat (first | (with_reducible first | exact HB.out | apply below_alloc | apply pw_below_drewN | apply below_drew1 | refine below_set ?_ GE162.out) | exact HB.out)))); have n4_ := Aside0.mk (Kd.R_lower (Kd.R_new' ho1 (Kd.R_lt (by (with_reducible repeat (first | apply Kd.R_alloc | apply Kd.R_drewN | apply Kd.R_drew)); exact HO_163001.out))) (below_size (by repeat (first | (with_reducible first | exact HB.out | apply below_alloc | apply pw_below_drewN | apply below_drew1 | refine below_set ?_ GE162.out) | exact HB.out)))); have n5_ := Aside0.mk (blk_below (g := gb162) (o := .cells #[.slice Ao11 t154.length co11, .slice Ao13 t157.length co13] 26 (0, 0)) (by (with_reducible repeat (first | refine blk_drewN ?_ _ | refine blk_drew ?_ | refine blk_alloc ?_ _)); exact BK162.out) hb); have n6_ := Aside0.mk (below_step (by repeat (first | (with_reducible first | exact HB.out | apply below_alloc | apply pw_below_drewN | apply below_drew1 | refine below_set ?_ GE162.out) | exact HB.out)) hb); clear HO_7; clear HO_163000; clear HO_163001; clear BK162; clear HB; have HO_7 := n0_; have HO_163000 := n1_; have HO_163001 := n2_; have HO171 := n3_; have HO174 := n4_; have BK162 := n5_; have HB := n6_; clear n0_ n1_ n2_ n3_ n4_ n5_ n6_; (try clear hb); (try clear hb2); (try clear hk); (try clear hi); (try clear ho0); (try clear ho1)) | ((with_reducible refine gate_dst (N := 12) rfl ?_); (try (refine gate_guard (by rfl) ?_; dsimp only)); refine box_event ?hg (N := 12) ?hd (cs := #[.slice none 0 0, .slice none 0 0]) (t := 26) ?hr ?_; (case hd => rfl); (case hg => rfl); (case hr => first | (go_simp; done) | (go_simp; rfl)); intro gb177 hg w35 hbox hb; have n0_ := Aside0.mk (Kd.R_below (by (with_reducible repeat (first | apply Kd.R_alloc | apply Kd.R_drewN | apply Kd.R_drew)); exact HO_7.out) hb); have n1_ := Aside0.mk (Kd.R_below (by (with_reducible repeat (first | apply Kd.R_alloc | apply Kd.R_drewN | apply Kd.R_drew)); exact HO_163000.out) hb); have n2_ := Aside0.mk (Kd.R_below (by (with_reducible repeat (first | apply Kd.R_alloc | apply Kd.R_drewN | apply Kd.R_drew)); exact HO_163001.out) hb); have n3_ := Aside0.mk (Kd.R_below (by (with_reducible repeat (first | apply Kd.R_alloc | apply Kd.R_drewN | apply Kd.R_drew)); exact HO171.out) hb); have n4_ := Aside0.mk (Kd.R_below (by (with_reducible repeat (first | apply Kd.R_alloc | apply Kd.R_drewN | apply Kd.R_drew)); exact HO174.out) hb); have n5_ := Aside0.mk (blk_below (g := gb162) (o := .cells #[.slice Ao11 t154.length co11, .slice Ao13 t157.length co13] 26 (0, 0)) (by (with_reducible repeat (first | refine blk_drewN ?_ _ | refine blk_drew ?_ | refine blk_alloc ?_ _)); exact BK162.out) hb); have n6_ := Aside0.mk (below_step (by repeat (first | (with_reducible first | exact HB.out | apply below_alloc | apply pw_below_drewN | apply below_drew1 | refine below_set ?_ GE162.out) | exact HB.out)) hb); have n7_ := Aside0.mk (hbox); have n8_ := Aside0.mk ((by rw [hg]; exact (below_size (by repeat (first | (with_reducible first | exact HB.out | apply below_alloc | apply pw_below_drewN | apply below_drew1 | refine below_set ?_ GE162.out) | exact HB.out))) : w.heap.size ≤ gb177)); have n9_ := Aside0.mk ((by rw [hg]; exact (below_size (by repeat (first | (with_reducible first | exact HB.out | apply below_alloc | apply pw_below_drewN | apply below_drew1 | refine below_set ?_ GE162.out) | exact HB.out))) : w.heap.size ≤ gb177)); have n10_ := Aside0.mk ((by rw [hg]; exact Nat.ne_of_lt (blk_lt (g := gb162) (o := .cells #[.slice Ao11 t154.length co11, .slice Ao13 t157.length co13] 26 (0, 0)) (by (with_reducible repeat (first | refine blk_drewN ?_ _ | refine blk_drew ?_ | refine blk_alloc ?_ _)); exact BK162.out)) : gb162 ≠ gb177)); have n11_ := Aside0.mk ((by rw [hg]; exact Nat.ne_of_gt (blk_lt (g := gb162) (o := .cells #[.slice Ao11 t154.length co11, .slice Ao13 t157.length co13] 26 (0, 0)) (by (with_reducible repeat (first | refine blk_drewN ?_ _ | refine blk_drew ?_ | refine blk_alloc ?_ _)); exact BK162.out)) : gb177 ≠ gb162)); clear HO_7; clear HO_163000; clear HO_163001; clear HO171; clear HO174; clear BK162; clear HB; have HO_7 := n0_; have HO_163000 := n1_; have HO_163001 := n2_; have HO171 := n3_; have HO174 := n4_; have BK162 := n5_; have HB := n6_; have BK177 := n7_; have GW177 := n8_; have GE177 := n9_; have NB162_177 := n10_; have NB177_162 := n11_; clear n0_ n1_ n2_ n3_ n4_ n5_ n6_ n7_ n8_ n9_ n10_ n11_; clear hb hbox hg; obtain ⟨Ao36, co36, eo36⟩ := Kd.R_slice HO171.out; subst eo36; have hnb37 := NB177_162.out; have hnc37 := NB162_177.out; have hcz38_0 : w35.cell? ⟨gb177, 0, none⟩ = some (.slice none 0 0) := (blk_cell BK177.out 0).trans rfl; have hcz38_1 : w35.cell? ⟨gb177, 1, none⟩ = some (.slice none 0 0) := (blk_cell BK177.out 1).trans rfl; have hfz38_0 := blk_frozen BK177.out 0; have hfz38_1 := blk_frozen BK177.out 1; obtain ⟨Ao39, co39, eo39⟩ := Kd.R_slice HO174.out; subst eo39))
                                  go_ret
                                  exact ⟨by first | rfl | (simp [] <;> rfl) | (simp [*] <;> rfl), by repeat (first | (with_reducible first | exact HB.out | apply below_alloc | apply pw_below_drewN | apply below_drew1 | refine below_set ?_ GE162.out | refine below_set ?_ GE177.out) | exact HB.out)⟩
                                · rw [if_neg c32] at H
                                  have c32b0 : (t176 == 0) = false := beq_eq_false_iff_ne.mpr c32
                                  have c32b1 : (t176 != 0) = true := bne_iff_ne.mpr c32
                                  by_cases c40 : t176 = 4
                                  · rw [if_pos c40] at H
                                    have c40b0 : (t176 == 4) = true := beq_iff_eq.mpr c40
                                    have c40b1 : (t176 != 4) = false := bne_eq_false_iff_eq.mpr c40
                                    clear c40
                                    have hv_ := Option.some.inj H
                                    obtain ⟨Ao41, co41, eo41⟩ := Kd.R_slice HO_7.out
                                    subst eo41
                                    go_wp2_with (first | ((with_reducible refine gate_callee (f := 5) rfl ?_); refine goesL_ (some 87) rfl rfl Tryd.func5 (by kernel_rfl) rfl #[.string (a0.extract 0 (t160 : Int).toNat)] rfl (by (try simp only [List.map_toArray, List.map_cons, List.map_nil]); first | done | rfl | (simp only [List.length_drop, List.length_take]; rfl)) ?_; (with_reducible refine (proto_Parse.calls (a0.extract 0 (t160 : Int).toNat) t169 t172 t175 t176 _ ?side1 A30.out).mono ?_); (case side1 => exact hG.below (by repeat (first | (with_reducible first | exact HB.out | apply below_alloc | apply pw_below_drewN | apply below_drew1 | refine below_set ?_ GE162.out) | exact HB.out))); rintro e w42 ⟨v170, v173, rfl, ho0, ho1, hb⟩; refine ⟨_, rfl, ?_⟩; have n0_ := Aside0.mk (Kd.R_below (by (with_reducible repeat (first | apply Kd.R_alloc | apply Kd.R_drewN | apply Kd.R_drew)); exact HO_7.out) hb); have n1_ := Aside0.mk (Kd.R_elder' (by (with_reducible repeat (first | apply Kd.R_alloc | apply Kd.R_drewN | apply Kd.R_drew)); exact HO_163000.out) (Kd.R_base ho0) hb); have n2_ := Aside0.mk (Kd.R_elder' (by (with_reducible repeat (first | apply Kd.R_alloc | apply Kd.R_drewN | apply Kd.R_drew)); exact HO_163001.out) (Kd.R_base ho1) hb); have n3_ := Aside0.mk (Kd.R_lower (Kd.R_new' ho0 (Kd.R_lt (by (with_reducible repeat (first | apply Kd.R_alloc | apply Kd.R_drewN | apply Kd.R_drew)); exact HO_163000.out))) (below_size (by repeat (first | (with_reducible first | exact HB.out | apply below_alloc | apply pw_below_drewN | apply below_drew1 | refine below_set ?_ GE162.out) | exact HB.out)))); have n4_ := Aside0.mk (Kd.R_lower (Kd.R_new' ho1 (Kd.R_lt (by (with_reducible repeat (first | apply Kd.R_alloc | apply Kd.R_drewN | apply Kd.R_drew)); exact HO_163001.out))) (below_size (by repeat (first | (with_reducible first | exact HB.out | apply below_alloc | apply pw_below_drewN | apply below_drew1 | refine below_set ?_ GE162.out) | exact HB.out)))); have n5_ := Aside0.mk (blk_below (g := gb162) (o := .cells #[.slice Ao11 t154.length co11, .slice Ao13 t157.length co13] 26 (0, 0)) (by (with_reducible repeat (first | refine blk_drewN ?_ _ | refine blk_drew ?_ | refine blk_alloc ?_ _)); exact BK162.out) hb); have n6_ := Aside0.mk (below_step (by repeat (first | (with_reducible first | exact HB.out | apply below_alloc | apply pw_below_drewN | apply below_drew1 | refine below_set ?_ GE162.out) | exact HB.out)) hb); clear HO_7; clear HO_163000; clear HO_163001; clear BK162; clear HB; have HO_7 := n0_; have HO_163000 := n1_; have HO_163001 := n2_; have HO171 := n3_; have HO174 := n4_; have BK162 := n5_; have HB := n6_; clear n0_ n1_ n2_ n3_ n4_ n5_ n6_; (try clear hb); (try clear hb2); (try clear hk); (try clear hi); (try clear ho0); (try clear ho1)) | ((with_reducible refine gate_dst (N := 12) rfl ?_); (try (refine gate_guard (by rfl) ?_; dsimp only)); refine box_event ?hg (N := 12) ?hd (cs := #[.slice none 0 0, .slice none 0 0]) (t := 26) ?hr ?_; (case hd => rfl); (case hg => rfl); (case hr => first | (go_simp; done) | (go_simp; rfl)); intro gb177 hg w43 hbox hb; have n0_ := Aside0.mk (Kd.R_below (by (with_reducible repeat (first | apply Kd.R_alloc | apply Kd.R_drewN | apply Kd.R_drew)); exact HO_7.out) hb); have n1_ := Aside0.mk (Kd.R_below (by (with_reducible repeat (first | apply Kd.R_alloc | apply Kd.R_drewN | apply Kd.R_drew)); exact HO_163000.out) hb); have n2_ := Aside0.mk (Kd.R_below (by (with_reducible repeat (first | apply Kd.R_alloc | apply Kd.R_drewN | apply Kd.R_drew)); exact HO_163001.out) hb); have n3_ := Aside0.mk (Kd.R_below (by (with_reducible repeat (first | apply Kd.R_alloc | apply Kd.R_drewN | apply Kd.R_drew)); exact HO171.out) hb); have n4_ := Aside0.mk (Kd.R_below (by (with_reducible repeat (first | apply Kd.R_alloc | apply Kd.R_drewN | apply Kd.R_drew)); exact HO174.out) hb); have n5_ := Aside0.mk (blk_below (g := gb162) (o := .cells #[.slice Ao11 t154.length co11, .slice Ao13 t157.length co13] 26 (0, 0)) (by (with_reducible repeat (first | refine blk_drewN ?_ _ | refine blk_drew ?_ | refine blk_alloc ?_ _)); exact BK162.out) hb); have n6_ := Aside0.mk (below_step (by repeat (first | (with_reducible first | exact HB.out | apply below_alloc | apply pw_below_drewN | apply below_drew1 | refine below_set ?_ GE162.out) | exact HB.out)) hb); have n7_ := Aside0.mk (hbox); have n8_ := Aside0.mk ((by rw [hg]; exact (below_size (by repeat (first | (with_reducible first | exact HB.out | apply below_alloc | apply pw_below_drewN | apply below_drew1 | refine below_set ?_ GE162.out) | exact HB.out))) : w.heap.size ≤ gb177)); have n9_ := Aside0.mk ((by rw [hg]; exact (below_size (by repeat (first | (with_reducible first | exact HB.out | apply below_alloc | apply pw_below_drewN | apply below_drew1 | refine below_set ?_ GE162.out) | exact HB.out))) : w.heap.size ≤ gb177)); have n10_ := Aside0.mk ((by rw [hg]; exact Nat.ne_of_lt (blk_lt (g := gb162) (o := .cells #[.slice Ao11 t154.length co11, .slice Ao13 t157.length co13] 26 (0, 0)) (by (with_reducible repeat (first | refine blk_drewN ?_ _ | refine blk_drew ?_ | refine blk_alloc ?_ _)); exact BK162.out)) : gb162 ≠ gb177)); have n11_ := Aside0.mk ((by rw [hg]; exact Nat.ne_of_gt (blk_lt (g := gb162) (o := .cells #[.slice Ao11 t154.length co11, .slice Ao13 t157.length co13] 26 (0, 0)) (by (with_reducible repeat (first | refine blk_drewN ?_ _ | refine blk_drew ?_ | refine blk_alloc ?_ _)); exact BK162.out)) : gb177 ≠ gb162)); clear HO_7; clear HO_163000; clear HO_163001; clear HO171; clear HO174; clear BK162; clear HB; have HO_7 := n0_; have HO_163000 := n1_; have HO_163001 := n2_; have HO171 := n3_; have HO174 := n4_; have BK162 := n5_; have HB := n6_; have BK177 := n7_; have GW177 := n8_; have GE177 := n9_; have NB162_177 := n10_; have NB177_162 := n11_; clear n0_ n1_ n2_ n3_ n4_ n5_ n6_ n7_ n8_ n9_ n10_ n11_; clear hb hbox hg; obtain ⟨Ao44, co44, eo44⟩ := Kd.R_slice HO171.out; subst eo44; have hnb45 := NB177_162.out; have hnc45 := NB162_177.out; have hcz46_0 : w43.cell? ⟨gb177, 0, none⟩ = some (.slice none 0 0) := (blk_cell BK177.out 0).trans rfl; have hcz46_1 : w43.cell? ⟨gb177, 1, none⟩ = some (.slice none 0 0) := (blk_cell BK177.out 1).trans rfl; have hfz46_0 := blk_frozen BK177.out 0; have hfz46_1 := blk_frozen BK177.out 1; obtain ⟨Ao47, co47, eo47⟩ := Kd.R_slice HO174.out; subst eo47))
                                    go_ret
                                    exact ⟨by first | rfl | (rw [hv_]; done) | (simp [hv_]; done) | (simp [← hv_]; done) | (simp [] <;> rfl) | (simp [*] <;> rfl), by repeat (first | (with_reducible first | exact HB.out | apply below_alloc | apply pw_below_drewN | apply below_drew1 | refine below_set ?_ GE162.out | refine below_set ?_ GE177.out) | exact HB.out)⟩
                                  · rw [if_neg c40] at H
                                    have c40b0 : (t176 == 4) = false := beq_eq_false_iff_ne.mpr c40
                                    have c40b1 : (t176 != 4) = true := bne_iff_ne.mpr c40
                                    exact absurd (Option.some.inj H) Bool.false_ne_true
                              · replace c31 := Bool.eq_false_iff.mpr c31
                                subst c31
                                have H1 : (some false) = some true := by first | (rw [if_neg (show ¬ (false = true) by decide)] at H; exact H) | rfl
                                clear H
                                have H := H1
                                clear H1
                                exact absurd (Option.some.inj H) Bool.false_ne_true
                            · rw [if_neg c29] at H
                              exact absurd H (by simp)
                          · rw [if_neg c28] at H
                            exact absurd H (by simp)
def trufflelaw07_ProtoPlace.Pure : Prop := ∀ (a0 : ByteArray), a0.size ≤ 140737488351232 → ∃ k, trufflelaw07_ProtoPlace.f k a0 = some true
theorem trufflelaw07_ProtoPlace.walk (P : trufflelaw07_ProtoPlace.Pure) (a0 : ByteArray) (w : World) (w0 : a0.size ≤ 140737488351232) (hG : GInv w) :
    Calls Tryd.prog 3 #[.string a0] w fun e w' => e = .returned (.bool true) ∧ Below w.heap.size w w' := by
  obtain ⟨k, h⟩ := P a0 w0
  refine (trufflelaw07_ProtoPlace.calls k a0 w hG h).mono ?_
  rintro e w' ⟨rfl, hd⟩
  exact ⟨rfl, hd⟩
end Go.Proofs.YtddpjjhekhompaaDoor.P
namespace Go.Proofs.YtddpjjhekhompaaDoor.P
open Go.RowKit Go.Proofs.YtddpjjhekhompaaDoorW.PrintWords Go.Proofs.YtddpjjhekhompaaDoorW.PrintLast Go.Proofs.YtddpjjhekhompaaDoorW.PrintMore
set_option linter.unusedVariables false
set_option linter.unusedSimpArgs false
theorem run_take (p : UInt8 → Bool) (c : UInt8) (r : List UInt8) : (c :: r).take (runN p (c :: r)) = c :: r.takeWhile p := by
  simp only [runN]
  rw [Nat.add_comm, List.take_succ_cons]
  congr 1
  exact (List.prefix_iff_eq_take.1 (List.takeWhile_prefix p)).symm
theorem takeWhile_twice (p : UInt8 → Bool) (l : List UInt8) : (l.takeWhile p).takeWhile p = l.takeWhile p := by
  induction l with
  | nil => rfl
  | cons x r ih =>
    by_cases hx : p x = true
    · simp [List.takeWhile_cons, hx, ih]
    · simp [List.takeWhile_cons, hx]
def selfT (kd : Int) (t : List UInt8) (v : Int) : Prop := (kd = 0 ∨ kd = 1) ∧ lex1 t = some (kd, t, v, t.length)
theorem runN_self (p : UInt8 → Bool) (c : UInt8) (r : List UInt8) : runN p (c :: r.takeWhile p) = (c :: r.takeWhile p).length := by
  simp only [runN, takeWhile_twice, List.length_cons]
  omega
theorem lex1_tok (l : List UInt8) (kd : Int) (t : List UInt8) (v : Int) (n : Nat) (h : lex1 l = some (kd, t, v, n)) :
    (selfT kd t v ∧ t.length ≤ l.length) ∨ (kd = 2 ∧ v = 0) ∨ (kd = 3 ∧ v = 0 ∧ t.length = 1) := by
  cases l with
  | nil => cases h
  | cons c r =>
    rw [lex1_cons] at h
    split at h
    · cases h
    · rename_i h4
      split at h
      · rename_i h0
        simp only [Option.some.injEq, Prod.mk.injEq] at h
        obtain ⟨rfl, rfl, rfl, rfl⟩ := h
        refine .inl ⟨⟨.inl rfl, ?_⟩, by rw [List.length_take]; omega⟩
        rw [run_take, lex1_cons, if_neg h4, if_pos h0, runN_self, List.take_length]
      · rename_i h0
        split at h
        · rename_i h1
          split at h
          · rename_i hok
            simp only [Option.some.injEq, Prod.mk.injEq] at h
            obtain ⟨rfl, rfl, rfl, rfl⟩ := h
            refine .inl ⟨⟨.inr rfl, ?_⟩, by rw [List.length_take]; omega⟩
            rw [run_take] at hok ⊢
            rw [lex1_cons, if_neg h4, if_neg h0, if_pos h1, runN_self, List.take_length, if_pos hok]
          · cases h
        · rename_i h1
          split at h
          · obtain ⟨⟨t', n'⟩, h3, h5⟩ := Option.map_eq_some_iff.mp h
            simp only [Prod.mk.injEq] at h5
            obtain ⟨rfl, rfl, rfl, rfl⟩ := h5
            exact .inr (.inl ⟨rfl, rfl⟩)
          · simp only [Option.some.injEq, Prod.mk.injEq] at h
            obtain ⟨rfl, rfl, rfl, rfl⟩ := h
            exact .inr (.inr ⟨rfl, rfl, rfl⟩)
theorem scan_nil (m p : Nat) : scan m p [] = .inl [] := rfl
theorem scan_cases (m p : Nat) (a : List UInt8) (ts : List TokS) (h : scan m p a = .inl ts) : ts = [] ∨ ∃ (k : Nat) (kd : Int) (t : List UInt8) (v : Int) (n : Nat) (us : List TokS),
    lex1 (a.drop k) = some (kd, t, v, n) ∧ 1 ≤ n ∧ k + n ≤ a.length ∧ 0 < m ∧ scan (m - 1) (p + k + n) (a.drop (k + n)) = .inl us ∧ ts = ⟨kd, ⟨t.toArray⟩, v, ((p + k : Nat) : Int)⟩ :: us := by
  unfold scan at h
  have hk := skipN_le false a
  generalize skipN false a = k at h hk
  cases hl : a.drop k with
  | nil => rw [hl, lx_nil] at h; simp only [Sum.inl.injEq] at h; exact .inl h.symm
  | cons c r =>
    have hz := congrArg List.length hl
    rw [List.length_drop, List.length_cons] at hz
    rw [hl, lx_cons] at h
    cases hx : lex1 (c :: r) with
    | none => rw [hx] at h; cases h
    | some y =>
      obtain ⟨kd, t, v, n⟩ := y
      obtain ⟨n1, n2⟩ := lex1_le _ _ _ _ _ hx
      rw [List.length_cons] at n2
      rw [hx] at h
      simp only at h
      split at h
      · cases h
      · rename_i hm
        cases hs : scan (m - 1) (p + k + n) ((c :: r).drop n) with
        | inr e => rw [hs] at h; cases h
        | inl us =>
          rw [hs] at h
          simp only [preE, Sum.inl.injEq] at h
          refine .inr ⟨k, kd, t, v, n, us, by rw [hl]; exact hx, n1, by omega, by omega, ?_, ?_⟩
          · rw [← List.drop_drop, hl]; exact hs
          · rw [← h]; rfl
def tokOk (t : TokS) : Prop := selfT t.f0 (bl t.f1) t.f2 ∨ (t.f0 = 2 ∧ t.f2 = 0) ∨ (t.f0 = 3 ∧ t.f2 = 0 ∧ (bl t.f1).length = 1)
def incT : Int → List TokS → Prop
  | _, [] => True
  | b, t :: ts => b ≤ t.f3 ∧ incT (t.f3 + 1) ts
theorem incT_mono : ∀ (ts : List TokS) (b c : Int), c ≤ b → incT b ts → incT c ts
  | [], _, _, _, _ => trivial
  | _ :: _, _, _, h, ⟨h1, h2⟩ => ⟨by omega, h2⟩
theorem scan_facts : ∀ (d m p : Nat) (a : List UInt8) (ts : List TokS), a.length ≤ d → scan m p a = .inl ts →
    (∀ t ∈ ts, tokOk t ∧ (selfT t.f0 (bl t.f1) t.f2 → t.f1.size ≤ a.length) ∧ t.f3 < p + a.length) ∧ incT p ts := by
  intro d
  induction d with
  | zero =>
    intro m p a ts hd h
    obtain rfl : a = [] := List.length_eq_zero_iff.mp (by omega)
    rw [scan_nil] at h
    injection h with h
    subst h
    exact ⟨fun t ht => (by cases ht), trivial⟩
  | succ d ih =>
    intro m p a ts hd h
    rcases scan_cases m p a ts h with rfl | ⟨k, kd, t, v, n, us, hx, hn, hk, hm, hs, rfl⟩
    · exact ⟨fun t ht => (by cases ht), trivial⟩
    · obtain ⟨g1, g2⟩ := ih _ _ _ _ (by rw [List.length_drop]; omega) hs
      refine ⟨fun u hu => ?_, ?_⟩
      · rcases List.mem_cons.1 hu with rfl | hu
        · have hl := lex1_tok _ _ _ _ _ hx
          refine ⟨Or.elim hl (fun hl => .inl hl.1) (fun hl => .inr hl), fun hself => ?_, by show ((p + k : Nat) : Int) < _; omega⟩
          · show (⟨t.toArray⟩ : ByteArray).size ≤ a.length
            rw [← bl_length]
            show t.length ≤ a.length
            have h9 : kd = 0 ∨ kd = 1 := hself.1
            rcases hl with hl | hl | hl
            · have := hl.2; rw [List.length_drop] at this; omega
            · exfalso; have := hl.1; omega
            · exfalso; have := hl.1; omega
        · obtain ⟨q1, q2, q3⟩ := g1 u hu
          rw [List.length_drop] at q2 q3
          exact ⟨q1, fun hh => by have := q2 hh; omega, by omega⟩
      · refine ⟨by show (p : Int) ≤ ((p + k : Nat) : Int); omega, incT_mono us _ _ ?_ g2⟩
        show ((p + k : Nat) : Int) + 1 ≤ ((p + k + n : Nat) : Int)
        omega
end Go.Proofs.YtddpjjhekhompaaDoor.P
namespace Go.Proofs.YtddpjjhekhompaaDoor.P
open Go.RowKit Go.Proofs.YtddpjjhekhompaaDoorW.PrintWords Go.Proofs.YtddpjjhekhompaaDoorW.PrintLast Go.Proofs.YtddpjjhekhompaaDoorW.PrintMore
set_option linter.unusedVariables false
set_option linter.unusedSimpArgs false
theorem inc_mem : ∀ (ts : List TokS) (b : Int), incT b ts → ∀ t ∈ ts, b ≤ t.f3
  | [], _, _, _, ht => by cases ht
  | x :: ts, b, ⟨h1, h2⟩, t, ht => by
    rcases List.mem_cons.1 ht with rfl | ht
    · exact h1
    · have := inc_mem ts (x.f3 + 1) h2 t ht
      omega
theorem allF_scan (s : ByteArray) (h : s.size ≤ 5000) : allF s = endL s [] (scan 1000 0 (bl s)) := by
  have := all_small s h
  unfold token_All.f at this
  exact Option.some.inj this
theorem parse_at (s : ByteArray) (h : s.size ≤ 5000) : 0 ≤ (parseF s).2.1 ∧ (parseF s).2.1 ≤ (s.size : Int) := by
  have hl := bl_length s
  unfold parseF
  rw [allF_scan s h]
  cases hB : scan 1000 0 (bl s) with
  | inr x =>
    obtain ⟨q, e⟩ := x
    obtain ⟨h1, h2, h3⟩ := scan_err _ 1000 0 (bl s) q e (Nat.le_refl _) hB
    have he : e ≠ 0 := by omega
    rw [show endL s [] (.inr (q, e)) = ([], (q : Int), e) from rfl, if_pos (show (([], (q : Int), e) : List TokS × Int × Int).2.2 ≠ 0 from he)]
    constructor <;> dsimp only <;> omega
  | inl ts =>
    obtain ⟨f1, f2⟩ := scan_facts _ 1000 0 (bl s) ts (Nat.le_refl _) hB
    rw [show endL s [] (.inl ts) = (ts, (s.size : Int), 0) from rfl, if_neg (show ¬ ((ts, (s.size : Int), 0) : List TokS × Int × Int).2.2 ≠ 0 from fun h => h rfl)]
    dsimp only
    by_cases hb : (pAll (s.size : Int) ts).2.b = true
    · rw [if_pos hb]
      obtain ⟨c, hc, _⟩ := top_bad ts.length ([], []) (s.size : Int) ts (Nat.le_refl _) hb
      have hc2 : ts = c ++ (pAll (s.size : Int) ts).2.r := hc
      unfold pAt
      cases hr : (pAll (s.size : Int) ts).2.r with
      | nil => constructor <;> dsimp only <;> omega
      | cons t r =>
        have hm : t ∈ ts := by rw [hc2, hr]; simp
        have g1 := (f1 t hm).2.2
        have g2 := inc_mem ts _ f2 t hm
        constructor <;> dsimp only <;> omega
    · rw [if_neg hb]
      constructor <;> dsimp only <;> omega
end Go.Proofs.YtddpjjhekhompaaDoor.P
namespace Go.Proofs.YtddpjjhekhompaaDoor.P
open Go.RowKit Go.Proofs.YtddpjjhekhompaaDoorW.PrintWords Go.Proofs.YtddpjjhekhompaaDoorW.PrintLast Go.Proofs.YtddpjjhekhompaaDoorW.PrintMore
set_option linter.unusedVariables false
set_option linter.unusedSimpArgs false
theorem skipN_take : ∀ (a : List UInt8) (c : Bool) (j : Nat), skipN c a ≤ j → skipN c (a.take j) = skipN c a := by
  intro a
  induction a with
  | nil => intro c j _; rw [List.take_nil]
  | cons x r ih =>
    intro c j h
    cases c with
    | true =>
      rw [skipN_t] at h ⊢
      obtain ⟨j, rfl⟩ : ∃ i, j = i + 1 := ⟨j - 1, by omega⟩
      rw [List.take_succ_cons, skipN_t, ih _ j (by omega)]
    | false =>
      rw [skipN_f] at h ⊢
      by_cases h1 : blankB x = true
      · rw [if_pos h1] at h ⊢
        obtain ⟨j, rfl⟩ : ∃ i, j = i + 1 := ⟨j - 1, by omega⟩
        rw [List.take_succ_cons, skipN_f, if_pos h1, ih _ j (by omega)]
      · rw [if_neg h1] at h ⊢
        by_cases h2 : x = 47 ∧ r.head? = some 47
        · rw [if_pos h2] at h ⊢
          obtain ⟨j, rfl⟩ : ∃ i, j = i + 1 := ⟨j - 1, by omega⟩
          rw [List.take_succ_cons, skipN_f, if_neg h1]
          have h3 : (r.take j).head? = some 47 := by
            cases r with
            | nil => cases h2.2
            | cons y r =>
              rw [skipN_t] at h
              obtain ⟨i, rfl⟩ : ∃ i, j = i + 1 := ⟨j - 1, by omega⟩
              exact h2.2
          rw [if_pos ⟨h2.1, h3⟩, ih _ j (by omega)]
        · rw [if_neg h2]
          cases j with
          | zero => rfl
          | succ j =>
            rw [List.take_succ_cons, skipN_f, if_neg h1, if_neg]
            rintro ⟨h3, h4⟩
            refine h2 ⟨h3, ?_⟩
            cases r with
            | nil => simp at h4
            | cons y r =>
              cases j with
              | zero => cases h4
              | succ j => exact h4
theorem takeWhile_take {α : Type} (p : α → Bool) : ∀ (l : List α) (j : Nat), (l.takeWhile p).length ≤ j → (l.take j).takeWhile p = l.takeWhile p := by
  intro l
  induction l with
  | nil => intro j _; rw [List.take_nil]
  | cons x r ih =>
    intro j h
    by_cases hx : p x = true
    · rw [List.takeWhile_cons_of_pos hx] at h ⊢
      obtain ⟨j, rfl⟩ : ∃ i, j = i + 1 := ⟨j - 1, by simp only [List.length_cons] at h; omega⟩
      rw [List.take_succ_cons, List.takeWhile_cons_of_pos hx, ih j (by simpa using h)]
    · rw [List.takeWhile_cons_of_neg hx]
      cases j with
      | zero => rfl
      | succ j => rw [List.take_succ_cons, List.takeWhile_cons_of_neg hx]
theorem runN_cut (p : UInt8 → Bool) (b : UInt8) (r : List UInt8) (j : Nat) (h : runN p (b :: r) ≤ j + 1) : runN p (b :: r.take j) = runN p (b :: r) := by
  have h' : 1 + (r.takeWhile p).length ≤ j + 1 := h
  show 1 + ((r.take j).takeWhile p).length = 1 + (r.takeWhile p).length
  rw [takeWhile_take p r j (by omega)]
theorem markL_take (l : List UInt8) (j : Nat) (m : UInt8) (n : Nat) (h : markL l = some (m, n)) (hj : n ≤ j) : markL (l.take j) = some (m, n) := by
  have h0 := markL_le l m n h
  cases l with
  | nil => cases h
  | cons d r =>
    obtain ⟨j, rfl⟩ : ∃ i, j = i + 1 := ⟨j - 1, by omega⟩
    rw [List.take_succ_cons]
    simp only [markL] at h ⊢
    by_cases h1 : d = 34
    · rw [if_pos h1] at h ⊢; exact h
    · rw [if_neg h1] at h ⊢
      by_cases h2 : d = 92
      · rw [if_pos h2] at h ⊢; exact h
      · rw [if_neg h2] at h ⊢
        by_cases h3 : d = 110
        · rw [if_pos h3] at h ⊢; exact h
        · rw [if_neg h3] at h ⊢
          by_cases h4 : d = 120
          · rw [if_pos h4] at h ⊢
            match r, h with
            | a :: b :: r', h =>
              simp only at h
              split at h
              · rename_i h5
                simp only [Option.some.injEq, Prod.mk.injEq] at h
                obtain ⟨rfl, rfl⟩ := h
                obtain ⟨j, rfl⟩ : ∃ i, j = i + 2 := ⟨j - 2, by omega⟩
                rw [List.take_succ_cons, List.take_succ_cons]
                simp only
                rw [if_pos h5]
              · cases h
          · rw [if_neg h4] at h; cases h
theorem strL_take : ∀ (f : Nat) (l t : List UInt8) (n j g : Nat), strL f l = some (t, n) → n ≤ j → (l.take j).length < g → strL g (l.take j) = some (t, n) := by
  intro f
  induction f with
  | zero => intro l t n j g h; cases h
  | succ f ih =>
    intro l t n j g h hj hg
    have h0 := strL_le _ l t n h
    cases l with
    | nil => cases h
    | cons c r =>
      obtain ⟨j, rfl⟩ : ∃ i, j = i + 1 := ⟨j - 1, by omega⟩
      rw [List.take_succ_cons] at hg ⊢
      obtain ⟨g, rfl⟩ : ∃ i, g = i + 1 := ⟨g - 1, by omega⟩
      rw [strL] at h ⊢
      by_cases h1 : c = 34
      · rw [if_pos h1] at h ⊢; exact h
      · rw [if_neg h1] at h ⊢
        by_cases h2 : c = 92
        · rw [if_pos h2] at h ⊢
          cases hm : markL r with
          | none => rw [hm] at h; cases h
          | some y =>
            obtain ⟨m, n1⟩ := y
            rw [hm] at h
            simp only at h
            obtain ⟨⟨t2, n2⟩, h3, h4⟩ := Option.map_eq_some_iff.1 h
            simp only [Prod.mk.injEq] at h4
            obtain ⟨rfl, rfl⟩ := h4
            rw [markL_take r j m n1 hm (by omega)]
            simp only
            have h5 : (r.take j).drop n1 = (r.drop n1).take (j - n1) := List.drop_take ..
            simp only [List.length_cons, List.length_take] at hg
            have hm0 := markL_le r m n1 hm
            rw [h5, ih (r.drop n1) t2 n2 (j - n1) g h3 (by omega) (by simp only [List.length_take, List.length_drop]; omega)]
            rfl
        · rw [if_neg h2] at h ⊢
          by_cases h3 : c < 32
          · rw [if_pos h3] at h; cases h
          · rw [if_neg h3] at h ⊢
            by_cases h4 : c = 127
            · rw [if_pos h4] at h; cases h
            · rw [if_neg h4] at h ⊢
              obtain ⟨⟨t2, n2⟩, h5, h6⟩ := Option.map_eq_some_iff.1 h
              simp only [Prod.mk.injEq] at h6
              obtain ⟨rfl, rfl⟩ := h6
              rw [ih r t2 n2 j g h5 (by omega) (by simpa using hg)]
              rfl
theorem lex1_take (l : List UInt8) (j : Nat) (kd : Int) (t : List UInt8) (v : Int) (n : Nat) (h : lex1 l = some (kd, t, v, n)) (hj : n ≤ j) : lex1 (l.take j) = some (kd, t, v, n) := by
  have h0 := lex1_le l kd t v n h
  cases l with
  | nil => cases h
  | cons b r =>
    obtain ⟨j, rfl⟩ : ∃ i, j = i + 1 := ⟨j - 1, by omega⟩
    rw [List.take_succ_cons, lex1_cons]
    rw [lex1_cons] at h
    have hc : ∀ p : UInt8 → Bool, runN p (b :: r) ≤ j + 1 → (b :: r.take j).take (runN p (b :: r)) = (b :: r).take (runN p (b :: r)) := by
      intro p hp
      rw [← List.take_succ_cons, List.take_take, Nat.min_eq_left hp]
    by_cases h4 : ofK (b.toNat : Int) = 4
    · rw [if_pos h4] at h; cases h
    · rw [if_neg h4] at h ⊢
      by_cases h5 : ofK (b.toNat : Int) = 0
      · rw [if_pos h5] at h ⊢
        simp only [Option.some.injEq, Prod.mk.injEq] at h
        obtain ⟨rfl, rfl, rfl, rfl⟩ := h
        rw [runN_cut nameU b r j hj, hc nameU hj]
      · rw [if_neg h5] at h ⊢
        by_cases h6 : ofK (b.toNat : Int) = 1
        · rw [if_pos h6] at h ⊢
          split at h
          · rename_i h7
            simp only [Option.some.injEq, Prod.mk.injEq] at h
            obtain ⟨rfl, rfl, rfl, rfl⟩ := h
            rw [runN_cut numU b r j hj, hc numU hj, if_pos h7]
          · cases h
        · rw [if_neg h6] at h ⊢
          by_cases h7 : ofK (b.toNat : Int) = 2
          · rw [if_pos h7] at h ⊢
            obtain ⟨⟨t2, n2⟩, h8, h9⟩ := Option.map_eq_some_iff.1 h
            simp only [Prod.mk.injEq] at h9
            obtain ⟨rfl, rfl, rfl, rfl⟩ := h9
            rw [strL_take _ r t2 n2 j _ h8 (by omega) (Nat.lt_succ_self _)]
            rfl
          · rw [if_neg h7] at h ⊢
            exact h
theorem preE_inl (ts us : List TokS) (x : List TokS ⊕ (Nat × Int)) (h : preE ts x = .inl us) : ∃ vs, x = .inl vs ∧ us = ts ++ vs := by
  cases x with
  | inl vs => injection h with h; exact ⟨vs, rfl, h.symm⟩
  | inr e => cases h
theorem scan_ahead : ∀ (d m p : Nat) (a : List UInt8) (c : List TokS) (t : TokS) (ts : List TokS), a.length ≤ d → scan m p a = .inl (c ++ t :: ts) → scan m p (a.take (t.f3 - p).toNat) = .inl c := by
  intro d
  induction d with
  | zero =>
    intro m p a c t ts hd h
    obtain rfl : a = [] := List.length_eq_zero_iff.1 (by omega)
    rw [scan_nil] at h
    injection h with h
    cases c <;> cases h
  | succ d ih =>
    intro m p a c t ts hd h
    have hat := scan_at _ m p a _ (Nat.le_refl _) h t (by simp)
    unfold scan at h
    cases hb : a.drop (skipN false a) with
    | nil =>
      rw [hb, lx_nil] at h
      injection h with h
      cases c <;> cases h
    | cons x r =>
      rw [hb, lx_cons] at h
      cases hx : lex1 (x :: r) with
      | none => rw [hx] at h; cases h
      | some y =>
        obtain ⟨kd, t0, v, n⟩ := y
        rw [hx] at h
        simp only at h
        by_cases hm : m = 0
        · rw [if_pos hm] at h; cases h
        · rw [if_neg hm] at h
          have hk := skipN_le false a
          have hlen : a.length = skipN false a + (r.length + 1) := by
            have := congrArg List.length hb
            rw [List.length_drop] at this
            simp only [List.length_cons] at this
            omega
          have hn := lex1_le _ _ _ _ _ hx
          obtain ⟨vs, h1, h2⟩ := preE_inl _ _ _ h
          cases c with
          | nil =>
            rw [List.nil_append, List.singleton_append] at h2
            injection h2 with h2 h3
            rw [h2]
            have e : (((p + skipN false a : Nat) : Int) - (p : Int)).toNat = skipN false a := by omega
            show scan m p (a.take (((p + skipN false a : Nat) : Int) - (p : Int)).toNat) = _
            rw [e]
            unfold scan
            rw [skipN_take a false _ (Nat.le_refl _), List.drop_of_length_le (by rw [List.length_take]; omega), lx_nil]
          | cons c0 c' =>
            rw [List.cons_append, List.singleton_append] at h2
            injection h2 with h2 h3
            rw [← h3] at h1
            have hat2 := scan_at _ (m - 1) (p + skipN false a + n) ((x :: r).drop n) _ (Nat.le_refl _) h1 t (by simp)
            obtain ⟨j, hj⟩ : ∃ j : Nat, t.f3 = (p + skipN false a + n + j : Nat) := ⟨(t.f3 - (p + skipN false a + n : Nat)).toNat, by omega⟩
            have e : (t.f3 - (p : Int)).toNat = skipN false a + (n + j) := by omega
            rw [e]
            have hi := ih (m - 1) (p + skipN false a + n) ((x :: r).drop n) c' t ts (by rw [List.length_drop]; simp only [List.length_cons] at hn ⊢; omega) h1
            have e2 : (t.f3 - ((p + skipN false a + n : Nat) : Int)).toNat = j := by omega
            rw [e2] at hi
            unfold scan
            rw [skipN_take a false _ (by omega)]
            have e3 : (a.take (skipN false a + (n + j))).drop (skipN false a) = (x :: r).take (n + j) := by
              rw [List.drop_take, hb]
              congr 1
              omega
            rw [e3]
            obtain ⟨q, hq⟩ : ∃ q, n + j = q + 1 := ⟨n + j - 1, by omega⟩
            have hx2 := lex1_take _ (n + j) _ _ _ _ hx (by omega)
            rw [hq, List.take_succ_cons] at hx2 ⊢
            rw [lx_cons, hx2]
            simp only
            rw [if_neg hm]
            have e4 : (x :: r.take q).drop n = ((x :: r).drop n).take j := by
              rw [← List.take_succ_cons, ← hq, List.drop_take]
              congr 1
              omega
            rw [e4, hi, h2]
            rfl
end Go.Proofs.YtddpjjhekhompaaDoor.P
namespace Go.Proofs.YtddpjjhekhompaaDoor.P
open Go.RowKit Go.Proofs.YtddpjjhekhompaaDoorW.PrintWords Go.Proofs.YtddpjjhekhompaaDoorW.PrintLast Go.Proofs.YtddpjjhekhompaaDoorW.PrintMore
set_option linter.unusedVariables false
set_option linter.unusedSimpArgs false
theorem ppl_cut (s : ByteArray) (n : Nat) (h : n ≤ s.size) : bl (s.extract 0 n) = (bl s).take n ∧ (s.extract 0 n).size = n := by
  have h1 : bl (s.extract 0 n) = (bl s).take n := by
    unfold bl
    rw [ByteArray.data_extract]
    simp
  refine ⟨h1, ?_⟩
  rw [← bl_length, h1, List.length_take, bl_length]
  omega
theorem ppl_ok (s : ByteArray) (h : (parseF s).2.2 = 0) : (parseF s).2.1 = s.size ∧ (allF s).2.2 = 0 := by
  unfold parseF at h ⊢
  by_cases h1 : (allF s).2.2 ≠ 0
  · rw [if_pos h1] at h
    exact absurd h h1
  · rw [if_neg h1] at h ⊢
    by_cases h2 : (pAll s.size (allF s).1).2.b = true
    · rw [if_pos h2] at h
      exact absurd (show (4 : Int) = 0 from h) (by decide)
    · rw [if_neg h2]
      exact ⟨rfl, by simpa using h1⟩
theorem ppl_lex (s : ByteArray) (h : (allF s).2.2 ≠ 0) : (parseF s).2.2 = (allF s).2.2 := by
  unfold parseF
  rw [if_pos h]
theorem ppl_bad (s : ByteArray) (hs : s.size ≤ 1500) (he : (parseF s).2.2 ≠ 0) (hf : (allF s).2.2 = 0) :
    ((parseF s).2.1 = s.size ∨ ∃ t ∈ (allF s).1, t.f3 = (parseF s).2.1) ∧ (let x := s.extract 0 (parseF s).2.1.toNat; (parseF x).2.2 = 0 ∨ (parseF x).2.2 = 4 ∧ (parseF x).2.1 = (parseF s).2.1) := by
  have hat := parse_at s (by omega)
  have e1 : ∀ (x : ByteArray) (us : List TokS), endL x [] (.inl us) = (us, (x.size : Int), 0) := fun _ _ => rfl
  have z0 : ∀ (x : ByteArray) (us : List TokS), ¬ ((us, (x.size : Int), 0) : List TokS × Int × Int).2.2 ≠ 0 := fun _ _ h => h rfl
  have hp : parseF s = if (pAll s.size (allF s).1).2.b = true then (([], []), pAt s.size (pAll s.size (allF s).1).2, 4) else ((pAll s.size (allF s).1).1, s.size, 0) := by
    unfold parseF
    rw [if_neg (by rw [hf]; exact fun h => h rfl)]
  have hb : (pAll s.size (allF s).1).2.b = true := by
    cases hq : (pAll s.size (allF s).1).2.b with
    | true => rfl
    | false => rw [hp, hq, if_neg (by decide)] at he; exact absurd rfl he
  rw [if_pos hb] at hp
  have hA : ∃ ts, scan 1000 0 (bl s) = .inl ts ∧ (allF s).1 = ts := by
    have h0 := allF_scan s (by omega)
    cases hB : scan 1000 0 (bl s) with
    | inl ts => exact ⟨ts, rfl, by rw [h0, hB]; rfl⟩
    | inr x =>
      obtain ⟨q, er⟩ := x
      obtain ⟨h1, _, _⟩ := scan_err _ 1000 0 (bl s) q er (Nat.le_refl _) hB
      rw [h0, hB] at hf
      have : er = 0 := hf
      omega
  obtain ⟨ts, hsc, hts⟩ := hA
  rw [hts] at hp hb ⊢
  obtain ⟨c, hc, hy⟩ := top_bad ts.length ([], []) (s.size : Int) ts (Nat.le_refl _) hb
  have hc' : ts = c ++ (pAll (s.size : Int) ts).2.r := hc
  have hpa : (parseF s).2.1 = pAt s.size (pAll s.size ts).2 := by rw [hp]
  have hpe : (parseF s).2.2 = 4 := by rw [hp]
  cases hr : (pAll (s.size : Int) ts).2.r with
  | nil =>
    have h1 : (parseF s).2.1 = s.size := by rw [hpa]; unfold pAt; rw [hr]
    refine ⟨.inl h1, ?_⟩
    have hx : s.extract 0 (parseF s).2.1.toNat = s := by
      rw [h1, Int.toNat_natCast]
      have := (ppl_cut s s.size (Nat.le_refl _)).1
      rw [← mk_bl (s.extract 0 s.size), this, List.take_of_length_le (by rw [bl_length]; exact Nat.le_refl _), mk_bl]
    show (parseF (s.extract 0 (parseF s).2.1.toNat)).2.2 = 0 ∨ _
    rw [hx]
    exact .inr ⟨hpe, rfl⟩
  | cons t r =>
    have h1 : (parseF s).2.1 = t.f3 := by rw [hpa]; unfold pAt; rw [hr]
    rw [hr] at hc'
    refine ⟨.inr ⟨t, by rw [hc']; simp, h1.symm⟩, ?_⟩
    obtain ⟨x1, x2⟩ := ppl_cut s (parseF s).2.1.toNat (by omega)
    have hah := scan_ahead _ 1000 0 (bl s) c t r (Nat.le_refl _) (by rw [hsc, hc'])
    rw [show (t.f3 - ((0 : Nat) : Int)).toNat = (parseF s).2.1.toNat from by rw [h1]; simp, ← x1] at hah
    show (parseF (s.extract 0 (parseF s).2.1.toNat)).2.2 = 0 ∨ (parseF (s.extract 0 (parseF s).2.1.toNat)).2.2 = 4 ∧ (parseF (s.extract 0 (parseF s).2.1.toNat)).2.1 = (parseF s).2.1
    generalize hX : s.extract 0 (parseF s).2.1.toNat = X at *
    have hpx : parseF X = if (pAll X.size c).2.b = true then (([], []), pAt X.size (pAll X.size c).2, 4) else ((pAll X.size c).1, X.size, 0) := by
      unfold parseF
      rw [allF_scan X (by omega), hah, e1, if_neg (z0 _ _)]
    by_cases hbx : (pAll X.size c).2.b = true
    · right
      rw [if_pos hbx] at hpx
      have hrx : (pAll (X.size : Int) c).2.r = [] := hy (X.size : Int) (c.length + 1) (Nat.lt_succ_self _)
      rw [hpx]
      refine ⟨rfl, ?_⟩
      show pAt X.size (pAll X.size c).2 = _
      unfold pAt
      rw [hrx]
      show (X.size : Int) = _
      omega
    · left
      rw [if_neg hbx] at hpx
      rw [hpx]
theorem ppl_l0 (s : ByteArray) (hs : s.size ≤ 1500) (he : (parseF s).2.2 ≠ 0) (hf : (allF s).2.2 = 0) :
    ∀ (d i : Nat) (x : Bool), (allF s).1.length - i ≤ d → i ≤ (allF s).1.length → (x = true ∨ ∃ t ∈ (allF s).1.drop i, t.f3 = (parseF s).2.1) → ∀ k, d < k → trufflelaw07_ProtoPlace.l0 k s (parseF s).2.1 (allF s).1 x i = some true := by
  have hlen := allF_len s
  have hat := parse_at s (by omega)
  have hend : ∀ k i, ¬ (i : Int) < ((allF s).1.length : Int) → trufflelaw07_ProtoPlace.l0 (k + 1) s (parseF s).2.1 (allF s).1 true i = some true := by
    intro k i hi
    simp only [trufflelaw07_ProtoPlace.l0]
    rw [if_neg hi, if_pos hat.1, if_pos hat.2]
    simp only [proto_Parse.f, Option.bind_some]
    rw [if_pos trivial]
    rcases (ppl_bad s hs he hf).2 with h | ⟨h1, h2⟩
    · rw [if_pos h]
    · rw [if_neg (by rw [h1]; decide), if_pos h1, h2, beq_self_eq_true]
  intro d
  induction d with
  | zero =>
    intro i x hd hi hx k hk
    obtain ⟨k, rfl⟩ : ∃ m, k = m + 1 := ⟨k - 1, by omega⟩
    obtain rfl : x = true := by
      rcases hx with h | ⟨t, ht, _⟩
      · exact h
      · rw [List.drop_of_length_le (by omega)] at ht
        exact absurd ht List.not_mem_nil
    exact hend k i (by omega)
  | succ d ih =>
    intro i x hd hi hx k hk
    obtain ⟨k, rfl⟩ : ∃ m, k = m + 1 := ⟨k - 1, by omega⟩
    by_cases hlt : i < (allF s).1.length
    · have hw : wrap64 ((i : Int) + 1) = ((i + 1 : Nat) : Int) := by unfold wrap64; omega
      simp only [trufflelaw07_ProtoPlace.l0]
      rw [if_pos (by omega), hw]
      cases x with
      | true => rw [if_pos rfl]; exact ih (i + 1) true (by omega) (by omega) (.inl rfl) k (by omega)
      | false =>
        rw [if_neg Bool.false_ne_true, if_pos (by omega)]
        have e2 : rd_T34 (allF s).1 (i : Int) = (allF s).1[i] := by
          show (allF s).1.getD (i : Int).toNat _ = _
          rw [Int.toNat_natCast, List.getD_eq_getElem?_getD]
          simp [hlt]
        rw [e2]
        refine ih (i + 1) _ (by omega) (by omega) ?_ k (by omega)
        rcases hx with h | ⟨t, ht, h3⟩
        · cases h
        · rw [List.drop_eq_getElem_cons hlt] at ht
          rcases List.mem_cons.1 ht with h | h
          · left; rw [← h, h3, beq_self_eq_true]
          · exact .inr ⟨t, h, h3⟩
    · obtain rfl : x = true := by
        rcases hx with h | ⟨t, ht, _⟩
        · exact h
        · rw [List.drop_of_length_le (by omega)] at ht
          exact absurd ht List.not_mem_nil
      exact hend k i (by omega)
theorem ProtoPlace : trufflelaw07_ProtoPlace.Pure := by
  intro s _
  refine ⟨2000, ?_⟩
  unfold trufflelaw07_ProtoPlace.f
  rw [awake07_true, Option.bind_some, if_pos rfl]
  by_cases h1 : (s.size : Int) > 1500
  · rw [decide_eq_true h1]
    simp only [trufflelaw07_ProtoPlace.j0, if_true]
  · rw [decide_eq_false h1]
    have hat := parse_at s (by omega)
    have hlen := allF_len s
    have hj2 : ∀ k x, trufflelaw07_ProtoPlace.j2 (k + 1) s (parseF s).2.1 (parseF s).2.2 (allF s).1 x true = some (x == (parseF s).2.2) := fun k x => by simp only [trufflelaw07_ProtoPlace.j2, if_true]
    simp only [trufflelaw07_ProtoPlace.j0]
    rw [if_neg Bool.false_ne_true]
    simp only [proto_Parse.f, Option.bind_some]
    rw [if_neg (by omega), if_neg (by omega)]
    by_cases h0 : (parseF s).2.2 = 0
    · obtain ⟨g1, g2⟩ := ppl_ok s h0
      rw [if_pos h0]
      have hb : ((parseF s).2.1 != (s.size : Int)) = false := by rw [g1]; simp
      rw [hb]
      simp only [trufflelaw07_ProtoPlace.j1]
      rw [if_neg Bool.false_ne_true]
      unfold token_All.f
      rw [Option.bind_some, if_pos h0, hj2, g2, h0]
      rfl
    · rw [if_neg h0]
      simp only [trufflelaw07_ProtoPlace.j1]
      rw [if_neg Bool.false_ne_true]
      unfold token_All.f
      rw [Option.bind_some, if_neg h0]
      by_cases hf : (allF s).2.2 = 0
      · have hb : ((allF s).2.2 != 0) = false := by rw [hf]; rfl
        rw [hb]
        simp only [trufflelaw07_ProtoPlace.j2]
        rw [if_neg Bool.false_ne_true]
        refine ppl_l0 s (by omega) h0 hf (allF s).1.length 0 _ (by omega) (by omega) ?_ _ (by omega)
        rcases (ppl_bad s (by omega) h0 hf).1 with h | h
        · left; rw [h, beq_self_eq_true]
        · exact .inr h
      · have hb : ((allF s).2.2 != 0) = true := by simpa using hf
        rw [hb, hj2, ppl_lex s hf, beq_self_eq_true]
end Go.Proofs.YtddpjjhekhompaaDoor.P
namespace Go.Proofs.YtddpjjhekhompaaDoor.laidKit
open Go.RowKit
abbrev lst : List (String × DataW Unit) := [("math/bits.deBruijn32tab", Rows.laid_math_bits_deBruijn32tab), ("math/bits.deBruijn64tab", Rows.laid_math_bits_deBruijn64tab), ("internal/strconv.uint64pow10", Rows.laid_internal_strconv_uint64pow10), ("strconv.ErrRange", Rows.laid_strconv_ErrRange), ("strconv.ErrSyntax", Rows.laid_strconv_ErrSyntax)]
theorem gPow : Tryd.prog.globalNamed "internal/strconv.uint64pow10" = some 2 := by kernel_rfl
theorem gPowT : (Tryd.prog.globals[2]?).map (·.type) = some 138 := by kernel_rfl
theorem cPow : Tryd.prog.cellsOf 138 = 20 := by kernel_rfl
theorem cU64 : Tryd.prog.cellsOf 111 = 1 := by kernel_rfl
theorem gRng : Tryd.prog.globalNamed "strconv.ErrRange" = some 1 := by kernel_rfl
theorem gRngT : (Tryd.prog.globals[1]?).map (·.type) = some 87 := by kernel_rfl
theorem gSyn : Tryd.prog.globalNamed "strconv.ErrSyntax" = some 0 := by kernel_rfl
theorem gSynT : (Tryd.prog.globals[0]?).map (·.type) = some 87 := by kernel_rfl
theorem cErr : Tryd.prog.cellsOf 145 = 1 := by kernel_rfl
theorem cStr : Tryd.prog.cellsOf 9 = 1 := by kernel_rfl
theorem star : "*" ++ "errors.errorString" = "*errors.errorString" := by decide
theorem rowErr (u : TypeId) (h : Tryd.prog.typeName? 3 u = some "*errors.errorString") : u = 143 :=
  typeName_ptr_named (nm := "errors.errorString") (by rw [star]; kernel_rfl) (by kernel_rfl) (by decide) u (by rw [star]; exact h)
theorem pow_is : (Rows.laid_internal_strconv_uint64pow10 : DataW Unit) = Lib.tabData .u64 Lib.pow10Tab := by rfl
theorem ginv {W : World} (h : laidMetH Tryd.prog lst W) : P.GInv W := by
  rw [Go.MakeChecks.laidMetH_plain _ _ _ (by kernel_rfl)] at h
  have h3 := h.tail.tail
  have hp : Lib.TabIs Tryd.prog W "internal/strconv.uint64pow10" .u64 Lib.pow10Tab :=
    Lib.tabIs_of_head gPow gPowT Tryd.underlying138 Tryd.underlying111 cU64 cPow (by rw [← pow_is]; exact h3)
  obtain ⟨a1, s1, hv1, _, _, _⟩ := laid_sentinel h3.tail gRng gRngT Tryd.underlying87 rowErr Tryd.underlying143 Tryd.underlying145 rfl rfl Tryd.underlying9 cErr cStr
  obtain ⟨a2, s2, hv2, _, _, _⟩ := laid_sentinel h3.tail.tail gSyn gSynT Tryd.underlying87 rowErr Tryd.underlying143 Tryd.underlying145 rfl rfl Tryd.underlying9 cErr cStr
  refine ⟨⟨_, _, by have h0 := World.var?_cell gSyn hv2 0; simpa using h0⟩, ⟨_, _, by have h0 := World.var?_cell gRng hv1 0; simpa using h0⟩, hp, ?_⟩
  have c0 := hp.cell gPow 0 (by decide)
  exact World.block_lt_of_cell? W _ c0
abbrev synS : ByteArray := { data := #[105, 110, 118, 97, 108, 105, 100, 32, 115, 121, 110, 116, 97, 120] }
abbrev rngS : ByteArray := { data := #[118, 97, 108, 117, 101, 32, 111, 117, 116, 32, 111, 102, 32, 114, 97, 110, 103, 101] }
def cellsOfData : DataW Unit → Array Value
  | .agg l => (l.map fun
      | .lit (.int k n) => Value.int k n
      | _ => .nilIface).toArray
  | _ => #[]
noncomputable def low : Nat := (World.holding Tryd.prog default ⟨#[], #[], []⟩).heap.size
noncomputable def laidWorld (os : Os) : World :=
  let w0 := World.holding Tryd.prog os ⟨#[.cells #[.string synS] 145, .cells #[.string rngS] 145], #[], []⟩
  { w0 with heap := ((((w0.heap.modify 2 fun
      | .cells _ t frozen => .cells (cellsOfData Rows.laid_internal_strconv_uint64pow10) t frozen
      | o => o).modify 0 fun
      | .cells _ t frozen => .cells #[.iface 143 (.pointer (some ⟨low, 0, none⟩))] t frozen
      | o => o).modify 1 fun
      | .cells _ t frozen => .cells #[.iface 143 (.pointer (some ⟨low + 1, 0, none⟩))] t frozen
      | o => o).modify 4 fun
      | .cells _ t frozen => .cells (cellsOfData Rows.laid_math_bits_deBruijn32tab) t frozen
      | o => o).modify 5 fun
      | .cells _ t frozen => .cells (cellsOfData Rows.laid_math_bits_deBruijn64tab) t frozen
      | o => o }
theorem laid_met (os : Os) (args : Array Value) : laidMet Tryd.prog lst ((laidWorld os).forCall (fun _ _ => 0) ⟨#[], args, []⟩).memory :=
  laidMet_of_run' 8 (by kernel_rfl) (by kernel_rfl)
end Go.Proofs.YtddpjjhekhompaaDoor.laidKit
