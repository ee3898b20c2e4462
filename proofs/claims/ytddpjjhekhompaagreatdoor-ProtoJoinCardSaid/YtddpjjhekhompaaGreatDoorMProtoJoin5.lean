/- Part 5 of what the law ProtoJoin leans on: contracts of the functions that it reaches, and plain lemmas; printed walks and words (by the kit's print, through wip/mp.py) and the session's own texts, one behind the other, what is not used left out (wip/prune.py). -/
import Derived.Lib.ItoaMem
import Derived.Test.YtddpjjhekhompaaGreatDoorMProtoJoin1
import Derived.Test.YtddpjjhekhompaaGreatDoorMProtoJoin2
import Derived.Test.YtddpjjhekhompaaGreatDoorMProtoJoin3
import Derived.Test.YtddpjjhekhompaaGreatDoorMProtoJoin4
namespace Go.Proofs.YtddpjjhekhompaaGreatDoor.P
open Go.RowKit Go.Proofs.YtddpjjhekhompaaGreatDoorW.PrintWords Go.Proofs.YtddpjjhekhompaaGreatDoorW.PrintLast Go.Proofs.YtddpjjhekhompaaGreatDoorW.PrintMore
set_option linter.unusedVariables false
set_option linter.unusedSimpArgs false
def trufflelaw07_awake.f  : Option (Bool) := (proto_Parse.f (⟨#[109, 101, 115, 115, 97, 103, 101, 32, 65, 32, 123, 32, 105, 110, 116, 54, 52, 32, 97, 32, 61, 32, 49, 59, 32, 125]⟩ : ByteArray)).bind fun bt140 => (if bt140.2.2.2 = 0 then (if bt140.2.2.1 = 26 then (if (bt140.1.length : Int) = 1 then (if 0 < (bt140.1.length : Int) then (if (((rd_T34 bt140.1 0).f1).length : Int) = 1 then (if 0 < (((rd_T34 bt140.1 0).f1).length : Int) then (if ((rd_T36 ((rd_T34 bt140.1 0).f1) 0).f4).toList = ([97] : List UInt8) then ((proto_Print.f bt140.1 bt140.2.1).bind fun t152 => (some (t152.toList == ([109, 101, 115, 115, 97, 103, 101, 32, 65, 32, 123, 10, 32, 32, 105, 110, 116, 54, 52, 32, 97, 32, 61, 32, 49, 59, 10, 125, 10] : List UInt8)))) else (some false)) else (none)) else (some false)) else (none)) else (some false)) else (some false)) else (some false))
set_option maxHeartbeats 8000000 in
set_option maxRecDepth 100000 in
theorem trufflelaw07_awake.callsT  (w : World) (hG : GInv w) (h : trufflelaw07_awake.f  = some true) :
    Calls Tryz.prog 12 #[] w fun e w' => e = .returned (.bool true) ∧ Below w.heap.size w w' := by
  have hu26 := Tryz.underlying26
  have HB := Aside0.mk (Below.refl w.heap.size w)
  have H : ((proto_Parse.f (⟨#[109, 101, 115, 115, 97, 103, 101, 32, 65, 32, 123, 32, 105, 110, 116, 54, 52, 32, 97, 32, 61, 32, 49, 59, 32, 125]⟩ : ByteArray)).bind fun bt140 => (if bt140.2.2.2 = 0 then (if bt140.2.2.1 = 26 then (if (bt140.1.length : Int) = 1 then (if 0 < (bt140.1.length : Int) then (if (((rd_T34 bt140.1 0).f1).length : Int) = 1 then (if 0 < (((rd_T34 bt140.1 0).f1).length : Int) then (if ((rd_T36 ((rd_T34 bt140.1 0).f1) 0).f4).toList = ([97] : List UInt8) then ((proto_Print.f bt140.1 bt140.2.1).bind fun t152 => (some (t152.toList == ([109, 101, 115, 115, 97, 103, 101, 32, 65, 32, 123, 10, 32, 32, 105, 110, 116, 54, 52, 32, 97, 32, 61, 32, 49, 59, 10, 125, 10] : List UInt8)))) else (some false)) else (none)) else (some false)) else (none)) else (some false)) else (some false)) else (some false))) = some true := h
  clear h
  replace H := Option.bind_eq_some_iff.mp H
  obtain ⟨⟨t140, t143, t146, t147⟩, A10, H⟩ := H
  replace H : (if t147 = 0 then (if t146 = 26 then (if (t140.length : Int) = 1 then (if 0 < (t140.length : Int) then (if (((rd_T34 t140 0).f1).length : Int) = 1 then (if 0 < (((rd_T34 t140 0).f1).length : Int) then (if ((rd_T36 ((rd_T34 t140 0).f1) 0).f4).toList = ([97] : List UInt8) then ((proto_Print.f t140 t143).bind fun t152 => (some (t152.toList == ([109, 101, 115, 115, 97, 103, 101, 32, 65, 32, 123, 10, 32, 32, 105, 110, 116, 54, 52, 32, 97, 32, 61, 32, 49, 59, 10, 125, 10] : List UInt8)))) else (some false)) else (none)) else (some false)) else (none)) else (some false)) else (some false)) else (some false)) = some true := H
  have A1 := Aside0.mk A10
  clear A10
  by_cases c2 : t147 = 0
  · rw [if_pos c2] at H
    have c2b0 : (t147 == 0) = true := beq_iff_eq.mpr c2
    have c2b1 : (t147 != 0) = false := bne_eq_false_iff_eq.mpr c2
    clear c2
    by_cases c3 : t146 = 26
    · rw [if_pos c3] at H
      have c3b0 : (t146 == 26) = true := beq_iff_eq.mpr c3
      have c3b1 : (t146 != 26) = false := bne_eq_false_iff_eq.mpr c3
      clear c3
      by_cases c4 : (t140.length : Int) = 1
      · rw [if_pos c4] at H
        have c4b0 : ((t140.length : Int) == 1) = true := beq_iff_eq.mpr c4
        have c4b1 : ((t140.length : Int) != 1) = false := bne_eq_false_iff_eq.mpr c4
        clear c4
        by_cases c5 : 0 < (t140.length : Int)
        · rw [if_pos c5] at H
          have c5b0 : decide (0 < (t140.length : Int)) = true := decide_eq_true c5
          have c5b1 : decide (0 < t140.length) = true := decide_eq_true (by omega)
          clear c5
          by_cases c6 : (((rd_T34 t140 0).f1).length : Int) = 1
          · rw [if_pos c6] at H
            have c6b0 : ((((rd_T34 t140 0).f1).length : Int) == 1) = true := beq_iff_eq.mpr c6
            have c6b1 : ((((rd_T34 t140 0).f1).length : Int) != 1) = false := bne_eq_false_iff_eq.mpr c6
            clear c6
            by_cases c7 : 0 < (((rd_T34 t140 0).f1).length : Int)
            · rw [if_pos c7] at H
              have c7b0 : decide (0 < (((rd_T34 t140 0).f1).length : Int)) = true := decide_eq_true c7
              have c7b1 : decide (0 < ((rd_T34 t140 0).f1).length) = true := decide_eq_true (by omega)
              clear c7
              by_cases c8 : ((rd_T36 ((rd_T34 t140 0).f1) 0).f4).toList = ([97] : List UInt8)
              · rw [if_pos c8] at H
                have c8b0 : (((rd_T36 ((rd_T34 t140 0).f1) 0).f4).toList == ([97] : List UInt8)) = true := beq_iff_eq.mpr c8
                have c8b1 : (((rd_T36 ((rd_T34 t140 0).f1) 0).f4).toList != ([97] : List UInt8)) = false := bne_eq_false_iff_eq.mpr c8
                clear c8
                replace H := Option.bind_eq_some_iff.mp H
                obtain ⟨t152, A90, H⟩ := H
                replace H : (some (t152.toList == ([109, 101, 115, 115, 97, 103, 101, 32, 65, 32, 123, 10, 32, 32, 105, 110, 116, 54, 52, 32, 97, 32, 61, 32, 49, 59, 10, 125, 10] : List UInt8))) = some true := H
                have A9 := Aside0.mk A90
                clear A90
                have hv_ := Option.some.inj H
                go_enter Tryz.func12, Tryz.ntmps12
                go_wp2_with (first | ((with_reducible refine gate_callee (f := 13) rfl ?_); refine goesL_ (some 5) rfl rfl Tryz.func13 (by kernel_rfl) rfl #[.string (⟨#[109, 101, 115, 115, 97, 103, 101, 32, 65, 32, 123, 32, 105, 110, 116, 54, 52, 32, 97, 32, 61, 32, 49, 59, 32, 125]⟩ : ByteArray)] rfl (by (try simp only [List.map_toArray, List.map_cons, List.map_nil]); first | done | rfl | (simp only [List.length_drop, List.length_take]; rfl)) ?_; (with_reducible refine (proto_Parse.calls (⟨#[109, 101, 115, 115, 97, 103, 101, 32, 65, 32, 123, 32, 105, 110, 116, 54, 52, 32, 97, 32, 61, 32, 49, 59, 32, 125]⟩ : ByteArray) t140 t143 t146 t147 _ ?side1 A1.out).mono ?_); (case side1 => exact hG.below (by repeat (first | (with_reducible first | exact HB.out | apply below_alloc | apply pw_below_drewN | apply below_drew1) | exact HB.out))); rintro e w10 ⟨v141, v144, rfl, ho0, ho1, hb⟩; refine ⟨_, rfl, ?_⟩; have n0_ := Aside0.mk (Kd.R_lower ho0 (below_size (by repeat (first | (with_reducible first | exact HB.out | apply below_alloc | apply pw_below_drewN | apply below_drew1) | exact HB.out)))); have n1_ := Aside0.mk (Kd.R_lower ho1 (below_size (by repeat (first | (with_reducible first | exact HB.out | apply below_alloc | apply pw_below_drewN | apply below_drew1) | exact HB.out)))); have n2_ := Aside0.mk (below_step (by repeat (first | (with_reducible first | exact HB.out | apply below_alloc | apply pw_below_drewN | apply below_drew1) | exact HB.out)) hb); clear HB; have HO142 := n0_; have HO145 := n1_; have HB := n2_; clear n0_ n1_ n2_; (try clear hb); (try clear hb2); (try clear hk); (try clear hi); (try clear ho0); (try clear ho1)) | ((with_reducible refine gate_dst (N := 1) rfl ?_); (try (refine gate_guard (by rfl) ?_; dsimp only)); refine box_event ?hg (N := 1) ?hd (cs := #[.slice none 0 0, .slice none 0 0]) (t := 26) ?hr ?_; (case hd => rfl); (case hg => rfl); (case hr => first | (go_simp; done) | (go_simp; rfl)); intro gb148 hg w11 hbox hb; have n0_ := Aside0.mk (Kd.R_below (by (with_reducible repeat (first | apply Kd.R_alloc | apply Kd.R_drewN | apply Kd.R_drew)); exact HO142.out) hb); have n1_ := Aside0.mk (Kd.R_below (by (with_reducible repeat (first | apply Kd.R_alloc | apply Kd.R_drewN | apply Kd.R_drew)); exact HO145.out) hb); have n2_ := Aside0.mk (below_step (by repeat (first | (with_reducible first | exact HB.out | apply below_alloc | apply pw_below_drewN | apply below_drew1) | exact HB.out)) hb); have n3_ := Aside0.mk (hbox); have n4_ := Aside0.mk ((by rw [hg]; exact (below_size (by repeat (first | (with_reducible first | exact HB.out | apply below_alloc | apply pw_below_drewN | apply below_drew1) | exact HB.out))) : w.heap.size ≤ gb148)); have n5_ := Aside0.mk ((by rw [hg]; exact (below_size (by repeat (first | (with_reducible first | exact HB.out | apply below_alloc | apply pw_below_drewN | apply below_drew1) | exact HB.out))) : w.heap.size ≤ gb148)); clear HO142; clear HO145; clear HB; have HO142 := n0_; have HO145 := n1_; have HB := n2_; have BK148 := n3_; have GW148 := n4_; have GE148 := n5_; clear n0_ n1_ n2_ n3_ n4_ n5_; clear hb hbox hg; obtain ⟨Ao12, co12, eo12⟩ := Kd.R_slice HO142.out; subst eo12; have hcz13_0 : w11.cell? ⟨gb148, 0, none⟩ = some (.slice none 0 0) := (blk_cell BK148.out 0).trans rfl; have hcz13_1 : w11.cell? ⟨gb148, 1, none⟩ = some (.slice none 0 0) := (blk_cell BK148.out 1).trans rfl; have hfz13_0 := blk_frozen BK148.out 0; have hfz13_1 := blk_frozen BK148.out 1; obtain ⟨Ao14, co14, eo14⟩ := Kd.R_slice HO145.out; subst eo14) | ((with_reducible refine gate_store (t := 26) (p := 1) rfl ?_); refine store_event (t := 26) (p := 1) (v := ?vo_w15) (w1 := ((w11.setCell ⟨gb148, 0, none⟩ (.slice Ao12 t140.length co12)).setCell ⟨gb148, 1, none⟩ (.slice Ao14 t143.length co14))) ?hg ?ho ?hn ?hr ?_; (case ho => rfl); (case hg => rfl); (case hn => rfl); (case hr => first | (go_simp; done) | (go_simp; rfl)); intro w15 hw; have n0_ : Aside0 (Kd.R k34 34 w15 w.heap.size (fun _ => True) (.slice Ao12 t140.length co12) t140) := ⟨(by rw [hw]; exact (by (with_reducible repeat (first | apply Kd.R_alloc | apply Kd.R_drewN | apply Kd.R_drew)); exact Kd.R_mono (Kd.R_far (p := ⟨gb148, 1, none⟩) (Kd.R_far (p := ⟨gb148, 0, none⟩) (Kd.R_types HO142.out BK148.out (by decide)) (fun _ hk => hk.2) (.slice Ao12 t140.length co12)) (fun _ hk => hk.2) (.slice Ao14 t143.length co14)) (fun _ hk => trivial)))⟩; have n1_ : Aside0 (Kd.R k68 68 w15 w.heap.size (fun _ => True) (.slice Ao14 t143.length co14) t143) := ⟨(by rw [hw]; exact (by (with_reducible repeat (first | apply Kd.R_alloc | apply Kd.R_drewN | apply Kd.R_drew)); exact Kd.R_mono (Kd.R_far (p := ⟨gb148, 1, none⟩) (Kd.R_far (p := ⟨gb148, 0, none⟩) (Kd.R_types HO145.out BK148.out (by decide)) (fun _ hk => hk.2) (.slice Ao12 t140.length co12)) (fun _ hk => hk.2) (.slice Ao14 t143.length co14)) (fun _ hk => trivial)))⟩; have n2_ : Aside0 (w15.heap[gb148]? = some (.cells #[.slice Ao12 t140.length co12, .slice Ao14 t143.length co14] 26 (0, 0))) := ⟨(by rw [hw]; exact (by (with_reducible repeat (first | refine blk_drewN ?_ _ | refine blk_drew ?_ | refine blk_alloc ?_ _)); refine blk_put (cs := #[.slice Ao12 t140.length co12, .slice none 0 0]) ?_ 1 _ rfl; (with_reducible repeat (first | refine blk_drewN ?_ _ | refine blk_drew ?_ | refine blk_alloc ?_ _)); refine blk_put (cs := #[.slice none 0 0, .slice none 0 0]) ?_ 0 _ rfl; (with_reducible repeat (first | refine blk_drewN ?_ _ | refine blk_drew ?_ | refine blk_alloc ?_ _)); exact BK148.out))⟩; have n3_ : Aside0 (Below w.heap.size w w15) := ⟨(by rw [hw]; exact (by repeat (first | (with_reducible first | exact HB.out | apply below_alloc | apply pw_below_drewN | apply below_drew1 | refine below_set ?_ GE148.out) | exact HB.out)))⟩; clear hw; clear HO142; clear HO145; clear BK148; clear HB; have HO142 := n0_; have HO145 := n1_; have BK148 := n2_; have HB := n3_; clear n0_ n1_ n2_ n3_; have hcz16_0 : w15.cell? ⟨gb148, 0, none⟩ = some (.slice Ao12 t140.length co12) := (blk_cell BK148.out 0).trans rfl; have hcz16_1 : w15.cell? ⟨gb148, 1, none⟩ = some (.slice Ao14 t143.length co14) := (blk_cell BK148.out 1).trans rfl; have hfz16_0 := blk_frozen BK148.out 0; have hfz16_1 := blk_frozen BK148.out 1; have p149 : 0 ≤ (0 : Int) := (by omega); have q149 : 0 < (t140.length : Int) := of_decide_eq_true (by first | (with_reducible assumption) | assumption); obtain ⟨ad149, A149_1, c149_1, A149_2, c149_2, A149_3, c149_3, e149, hx149_0, hx149_1, hx149_2, hx149_3, hx149_4, hl149_1, hi149_1, hl149_2, hi149_2, hl149_3, hi149_3⟩ := at_T34 (Kd.R_reads' HO142.out).2.2 0 p149 q149; cases e149; obtain ⟨ce149, hce149, hMe149, hcc149⟩ := Kd.R_get HO142.out z34 0 p149 (by first | exact q149 | exact of_decide_eq_true (by first | (with_reducible assumption) | assumption) | (have e_ := (Kd.R_reads' HO142.out).1; omega)); obtain ⟨ve149_1, ve149_2, ve149_3, rfl, ge149_1, ge149_2, ge149_3⟩ := k34_openM hMe149; have hv149_1 := hcc149 1 _ rfl; rw [add_field _ _ 1 (by omega)] at hv149_1; replace hv149_1 := Option.some.inj (hv149_1.symm.trans hx149_1); rw [hv149_1] at ge149_1; have HL149_1 := Aside0.mk (show Kd.R k36 36 _ _ _ _ ((rd_T34 t140 0).f1) from ge149_1); clear hv149_1 ge149_1; have hv149_2 := hcc149 2 _ rfl; rw [add_field _ _ 2 (by omega)] at hv149_2; replace hv149_2 := Option.some.inj (hv149_2.symm.trans hx149_2); rw [hv149_2] at ge149_2; have HL149_2 := Aside0.mk (show Kd.R Kd.string 9 _ _ _ _ ((rd_T34 t140 0).f2) from ge149_2); clear hv149_2 ge149_2; have hv149_3 := hcc149 3 _ rfl; rw [add_field _ _ 3 (by omega)] at hv149_3; replace hv149_3 := Option.some.inj (hv149_3.symm.trans hx149_3); rw [hv149_3] at ge149_3; have HL149_3 := Aside0.mk (show Kd.R (Kd.int .i64) 2 _ _ _ _ ((rd_T34 t140 0).f3) from ge149_3); clear hv149_3 ge149_3; clear hcc149 hce149; have qi149 : (0 < t140.length) = True := eq_true (by omega); (try rw [show ((0 : Int)).toNat = 0 from rfl] at hx149_0); (try rw [show 0 * 5 = 0 from rfl] at hx149_0); (try rw [Addr.add_zero'] at hx149_0); (try rw [show ((0 : Int)).toNat = 0 from rfl] at hx149_1); (try rw [show 0 * 5 = 0 from rfl] at hx149_1); (try rw [Addr.add_zero'] at hx149_1); (try rw [show ((0 : Int)).toNat = 0 from rfl] at hx149_2); (try rw [show 0 * 5 = 0 from rfl] at hx149_2); (try rw [Addr.add_zero'] at hx149_2); (try rw [show ((0 : Int)).toNat = 0 from rfl] at hx149_3); (try rw [show 0 * 5 = 0 from rfl] at hx149_3); (try rw [Addr.add_zero'] at hx149_3); (try rw [show ((0 : Int)).toNat = 0 from rfl] at hx149_4); (try rw [show 0 * 5 = 0 from rfl] at hx149_4); (try rw [Addr.add_zero'] at hx149_4); have HR149_1 := Aside0.mk hi149_1; have HC149_1 := Aside0.mk hl149_1; clear hi149_1 hl149_1; have HR149_2 := Aside0.mk hi149_2; have HC149_2 := Aside0.mk hl149_2; clear hi149_2 hl149_2; have HR149_3 := Aside0.mk hi149_3; have HC149_3 := Aside0.mk hl149_3; clear hi149_3 hl149_3; replace p149 := eq_true p149; replace q149 := eq_true q149; have p150 : 0 ≤ (0 : Int) := (by omega); have q150 : 0 < (t140.length : Int) := of_decide_eq_true (by first | (with_reducible assumption) | assumption); obtain ⟨ad150, A150_1, c150_1, A150_2, c150_2, A150_3, c150_3, e150, hx150_0, hx150_1, hx150_2, hx150_3, hx150_4, hl150_1, hi150_1, hl150_2, hi150_2, hl150_3, hi150_3⟩ := at_T34 (Kd.R_reads' HO142.out).2.2 0 p150 q150; obtain rfl : ad149 = ad150 := (by injection e150); obtain ⟨ce150, hce150, hMe150, hcc150⟩ := Kd.R_get HO142.out z34 0 p150 (by first | exact q150 | exact of_decide_eq_true (by first | (with_reducible assumption) | assumption) | (have e_ := (Kd.R_reads' HO142.out).1; omega)); obtain ⟨ve150_1, ve150_2, ve150_3, rfl, ge150_1, ge150_2, ge150_3⟩ := k34_openM hMe150; have hv150_1 := hcc150 1 _ rfl; rw [add_field _ _ 1 (by omega)] at hv150_1; replace hv150_1 := Option.some.inj (hv150_1.symm.trans hx150_1); rw [hv150_1] at ge150_1; have HL150_1 := Aside0.mk (show Kd.R k36 36 _ _ _ _ ((rd_T34 t140 0).f1) from ge150_1); clear hv150_1 ge150_1; have hv150_2 := hcc150 2 _ rfl; rw [add_field _ _ 2 (by omega)] at hv150_2; replace hv150_2 := Option.some.inj (hv150_2.symm.trans hx150_2); rw [hv150_2] at ge150_2; have HL150_2 := Aside0.mk (show Kd.R Kd.string 9 _ _ _ _ ((rd_T34 t140 0).f2) from ge150_2); clear hv150_2 ge150_2; have hv150_3 := hcc150 3 _ rfl; rw [add_field _ _ 3 (by omega)] at hv150_3; replace hv150_3 := Option.some.inj (hv150_3.symm.trans hx150_3); rw [hv150_3] at ge150_3; have HL150_3 := Aside0.mk (show Kd.R (Kd.int .i64) 2 _ _ _ _ ((rd_T34 t140 0).f3) from ge150_3); clear hv150_3 ge150_3; clear hcc150 hce150; have qi150 : (0 < t140.length) = True := eq_true (by omega); (try rw [show ((0 : Int)).toNat = 0 from rfl] at hx150_0); (try rw [show 0 * 5 = 0 from rfl] at hx150_0); (try rw [Addr.add_zero'] at hx150_0); (try rw [show ((0 : Int)).toNat = 0 from rfl] at hx150_1); (try rw [show 0 * 5 = 0 from rfl] at hx150_1); (try rw [Addr.add_zero'] at hx150_1); (try rw [show ((0 : Int)).toNat = 0 from rfl] at hx150_2); (try rw [show 0 * 5 = 0 from rfl] at hx150_2); (try rw [Addr.add_zero'] at hx150_2); (try rw [show ((0 : Int)).toNat = 0 from rfl] at hx150_3); (try rw [show 0 * 5 = 0 from rfl] at hx150_3); (try rw [Addr.add_zero'] at hx150_3); (try rw [show ((0 : Int)).toNat = 0 from rfl] at hx150_4); (try rw [show 0 * 5 = 0 from rfl] at hx150_4); (try rw [Addr.add_zero'] at hx150_4); have HR150_1 := Aside0.mk hi150_1; have HC150_1 := Aside0.mk hl150_1; clear hi150_1 hl150_1; have HR150_2 := Aside0.mk hi150_2; have HC150_2 := Aside0.mk hl150_2; clear hi150_2 hl150_2; have HR150_3 := Aside0.mk hi150_3; have HC150_3 := Aside0.mk hl150_3; clear hi150_3 hl150_3; replace p150 := eq_true p150; replace q150 := eq_true q150; have ea_ := Option.some.inj (hx149_1.symm.trans hx150_1); injection ea_ with ea_ en_ ec_; subst ea_; subst ec_; clear en_; have ea_ := Option.some.inj (hx149_2.symm.trans hx150_2); injection ea_ with ea_ en_ ec_; subst ea_; subst ec_; clear en_; have ea_ := Option.some.inj (hx149_3.symm.trans hx150_3); injection ea_ with ea_ en_ ec_; subst ea_; subst ec_; clear en_; have p151 : 0 ≤ (0 : Int) := (by omega); have q151 : 0 < (((rd_T34 t140 0).f1).length : Int) := of_decide_eq_true (by first | (with_reducible assumption) | assumption); obtain ⟨ad151, e151, hx151_0, hx151_1, hx151_2, hx151_3, hx151_4, hx151_5, hx151_6⟩ := at_T36 (by repeat (first | (with_reducible exact HR150_1.out) | (with_reducible refine Kd.C_alloc ?_ _) | (with_reducible refine Kd.C_drewN ?_ _) | (with_reducible refine Kd.C_drew ?_) | exact HR150_1.out)) 0 p151 q151; cases e151; have qi151 : (0 < ((rd_T34 t140 0).f1).length) = True := eq_true (by omega); (try rw [show ((0 : Int)).toNat = 0 from rfl] at hx151_0); (try rw [show 0 * 7 = 0 from rfl] at hx151_0); (try rw [Addr.add_zero'] at hx151_0); (try rw [show ((0 : Int)).toNat = 0 from rfl] at hx151_1); (try rw [show 0 * 7 = 0 from rfl] at hx151_1); (try rw [Addr.add_zero'] at hx151_1); (try rw [show ((0 : Int)).toNat = 0 from rfl] at hx151_2); (try rw [show 0 * 7 = 0 from rfl] at hx151_2); (try rw [Addr.add_zero'] at hx151_2); (try rw [show ((0 : Int)).toNat = 0 from rfl] at hx151_3); (try rw [show 0 * 7 = 0 from rfl] at hx151_3); (try rw [Addr.add_zero'] at hx151_3); (try rw [show ((0 : Int)).toNat = 0 from rfl] at hx151_4); (try rw [show 0 * 7 = 0 from rfl] at hx151_4); (try rw [Addr.add_zero'] at hx151_4); (try rw [show ((0 : Int)).toNat = 0 from rfl] at hx151_5); (try rw [show 0 * 7 = 0 from rfl] at hx151_5); (try rw [Addr.add_zero'] at hx151_5); (try rw [show ((0 : Int)).toNat = 0 from rfl] at hx151_6); (try rw [show 0 * 7 = 0 from rfl] at hx151_6); (try rw [Addr.add_zero'] at hx151_6); replace p151 := eq_true p151; replace q151 := eq_true q151) | (go_at_call 14; (with_reducible refine (proto_Print.calls _ _ t140 _ _ t143 t152 _ ?side1 ?side2 ?side3 ?side4 ?side5 A9.out).mono ?_); (case side1 => exact hG.below (by repeat (first | (with_reducible first | exact HB.out | apply below_alloc | apply pw_below_drewN | apply below_drew1 | refine below_set ?_ GE148.out) | exact HB.out))); (case side2 => repeat (first | exact (Kd.R_reads' HO142.out).2.2 | (with_reducible refine Kd.C_alloc ?_ _) | (with_reducible refine Kd.C_drewN ?_ _) | (with_reducible refine Kd.C_drew ?_))); (case side3 => exact (Kd.R_reads' HO142.out).2.1); (case side4 => repeat (first | exact (Kd.R_reads' HO145.out).2.2 | (with_reducible refine Kd.C_alloc ?_ _) | (with_reducible refine Kd.C_drewN ?_ _) | (with_reducible refine Kd.C_drew ?_))); (case side5 => exact (Kd.R_reads' HO145.out).2.1); rintro e w17 ⟨rfl, hb⟩; have n0_ := Aside0.mk (Kd.R_below (by (with_reducible repeat (first | apply Kd.R_alloc | apply Kd.R_drewN | apply Kd.R_drew)); exact HO142.out) hb); have n1_ := Aside0.mk (Kd.R_below (by (with_reducible repeat (first | apply Kd.R_alloc | apply Kd.R_drewN | apply Kd.R_drew)); exact HO145.out) hb); have n2_ := Aside0.mk (Kd.R_below (by (with_reducible repeat (first | apply Kd.R_alloc | apply Kd.R_drewN | apply Kd.R_drew)); exact HL149_1.out) hb); have n3_ := Aside0.mk (Kd.R_below (by (with_reducible repeat (first | apply Kd.R_alloc | apply Kd.R_drewN | apply Kd.R_drew)); exact HL149_2.out) hb); have n4_ := Aside0.mk (Kd.R_below (by (with_reducible repeat (first | apply Kd.R_alloc | apply Kd.R_drewN | apply Kd.R_drew)); exact HL149_3.out) hb); have n5_ := Aside0.mk (Kd.R_below (by (with_reducible repeat (first | apply Kd.R_alloc | apply Kd.R_drewN | apply Kd.R_drew)); exact HL150_1.out) hb); have n6_ := Aside0.mk (Kd.R_below (by (with_reducible repeat (first | apply Kd.R_alloc | apply Kd.R_drewN | apply Kd.R_drew)); exact HL150_2.out) hb); have n7_ := Aside0.mk (Kd.R_below (by (with_reducible repeat (first | apply Kd.R_alloc | apply Kd.R_drewN | apply Kd.R_drew)); exact HL150_3.out) hb); have n8_ := Aside0.mk (blk_below (g := gb148) (o := .cells #[.slice (some ad149) t140.length co12, .slice Ao14 t143.length co14] 26 (0, 0)) (by (with_reducible repeat (first | refine blk_drewN ?_ _ | refine blk_drew ?_ | refine blk_alloc ?_ _)); exact BK148.out) hb); have n9_ := Aside0.mk (Kd.C_below (by repeat (first | (with_reducible exact HR149_1.out) | (with_reducible refine Kd.C_alloc ?_ _) | (with_reducible refine Kd.C_drewN ?_ _) | (with_reducible refine Kd.C_drew ?_) | exact HR149_1.out)) hb); have n10_ := Aside0.mk (Kd.C_below (by repeat (first | (with_reducible exact HR149_2.out) | (with_reducible refine Kd.C_alloc ?_ _) | (with_reducible refine Kd.C_drewN ?_ _) | (with_reducible refine Kd.C_drew ?_) | exact HR149_2.out)) hb); have n11_ := Aside0.mk (Kd.C_below (by repeat (first | (with_reducible exact HR149_3.out) | (with_reducible refine Kd.C_alloc ?_ _) | (with_reducible refine Kd.C_drewN ?_ _) | (with_reducible refine Kd.C_drew ?_) | exact HR149_3.out)) hb); have n12_ := Aside0.mk (Kd.C_below (by repeat (first | (with_reducible exact HR150_1.out) | (with_reducible refine Kd.C_alloc ?_ _) | (with_reducible refine Kd.C_drewN ?_ _) | (with_reducible refine Kd.C_drew ?_) | exact HR150_1.out)) hb); have n13_ := Aside0.mk (Kd.C_below (by repeat (first | (with_reducible exact HR150_2.out) | (with_reducible refine Kd.C_alloc ?_ _) | (with_reducible refine Kd.C_drewN ?_ _) | (with_reducible refine Kd.C_drew ?_) | exact HR150_2.out)) hb); have n14_ := Aside0.mk (Kd.C_below (by repeat (first | (with_reducible exact HR150_3.out) | (with_reducible refine Kd.C_alloc ?_ _) | (with_reducible refine Kd.C_drewN ?_ _) | (with_reducible refine Kd.C_drew ?_) | exact HR150_3.out)) hb); have n15_ := Aside0.mk (below_step (by repeat (first | (with_reducible first | exact HB.out | apply below_alloc | apply pw_below_drewN | apply below_drew1 | refine below_set ?_ GE148.out) | exact HB.out)) hb); clear HO142; clear HO145; clear HL149_1; clear HL149_2; clear HL149_3; clear HL150_1; clear HL150_2; clear HL150_3; clear BK148; clear HR149_1; clear HR149_2; clear HR149_3; clear HR150_1; clear HR150_2; clear HR150_3; clear HB; have HO142 := n0_; have HO145 := n1_; have HL149_1 := n2_; have HL149_2 := n3_; have HL149_3 := n4_; have HL150_1 := n5_; have HL150_2 := n6_; have HL150_3 := n7_; have BK148 := n8_; have HR149_1 := n9_; have HR149_2 := n10_; have HR149_3 := n11_; have HR150_1 := n12_; have HR150_2 := n13_; have HR150_3 := n14_; have HB := n15_; clear n0_ n1_ n2_ n3_ n4_ n5_ n6_ n7_ n8_ n9_ n10_ n11_ n12_ n13_ n14_ n15_; (try clear hb); (try clear hb2); (try clear hk); (try clear hi)))
                go_ret
                exact ⟨by first | rfl | (rw [hv_]; done) | (simp [hv_]; done) | (simp [← hv_]; done) | (simp [] <;> rfl) | (simp [*] <;> rfl), by repeat (first | (with_reducible first | exact HB.out | apply below_alloc | apply pw_below_drewN | apply below_drew1 | refine below_set ?_ GE148.out) | exact HB.out)⟩
              · rw [if_neg c8] at H
                have c8b0 : (((rd_T36 ((rd_T34 t140 0).f1) 0).f4).toList == ([97] : List UInt8)) = false := beq_eq_false_iff_ne.mpr c8
                have c8b1 : (((rd_T36 ((rd_T34 t140 0).f1) 0).f4).toList != ([97] : List UInt8)) = true := bne_iff_ne.mpr c8
                exact absurd (Option.some.inj H) Bool.false_ne_true
            · rw [if_neg c7] at H
              exact absurd H (by simp)
          · rw [if_neg c6] at H
            have c6b0 : ((((rd_T34 t140 0).f1).length : Int) == 1) = false := beq_eq_false_iff_ne.mpr c6
            have c6b1 : ((((rd_T34 t140 0).f1).length : Int) != 1) = true := bne_iff_ne.mpr c6
            exact absurd (Option.some.inj H) Bool.false_ne_true
        · rw [if_neg c5] at H
          exact absurd H (by simp)
      · rw [if_neg c4] at H
        have c4b0 : ((t140.length : Int) == 1) = false := beq_eq_false_iff_ne.mpr c4
        have c4b1 : ((t140.length : Int) != 1) = true := bne_iff_ne.mpr c4
        exact absurd (Option.some.inj H) Bool.false_ne_true
    · rw [if_neg c3] at H
      have c3b0 : (t146 == 26) = false := beq_eq_false_iff_ne.mpr c3
      have c3b1 : (t146 != 26) = true := bne_iff_ne.mpr c3
      exact absurd (Option.some.inj H) Bool.false_ne_true
  · rw [if_neg c2] at H
    have c2b0 : (t147 == 0) = false := beq_eq_false_iff_ne.mpr c2
    have c2b1 : (t147 != 0) = true := bne_iff_ne.mpr c2
    exact absurd (Option.some.inj H) Bool.false_ne_true
end Go.Proofs.YtddpjjhekhompaaGreatDoor.P
namespace Go.Proofs.YtddpjjhekhompaaGreatDoor.P
open Go.RowKit Go.Proofs.YtddpjjhekhompaaGreatDoorW.PrintWords Go.Proofs.YtddpjjhekhompaaGreatDoorW.PrintLast Go.Proofs.YtddpjjhekhompaaGreatDoorW.PrintMore
set_option linter.unusedVariables false
set_option linter.unusedSimpArgs false
theorem itoa_1 : Lib.itoa 1 = [49] := by
  have h := Lib.itoa_nonneg 1
  have e : Lib.decDigits 1 = [49] := by rw [Lib.decDigits_one (by omega)]; decide
  rw [e] at h
  exact h
theorem parse_1 : Lib.parseIntB 64 [49] = .ok 1 := by decide
theorem numOk_1 : numOk [49] = true := by
  unfold numOk
  rw [parse_1]
  simp only [itoa_1, decide_true]
theorem numV_1 : numV [49] = 1 := by unfold numV; rw [parse_1]
theorem lex_1 : lex1 [49, 59, 32, 125] = some (1, [49], 1, 1) := by
  rw [lex1_cons, if_neg (by decide), if_neg (by decide), if_pos (by decide)]
  have e : List.take (runN numU [49, 59, 32, 125]) ([49, 59, 32, 125] : List UInt8) = [49] := by decide
  have e2 : runN numU [49, 59, 32, 125] = 1 := by decide
  rw [e, numOk_1, numV_1, if_pos rfl, e2]
def exText : ByteArray := ⟨#[109, 101, 115, 115, 97, 103, 101, 32, 65, 32, 123, 32, 105, 110, 116, 54, 52, 32, 97, 32, 61, 32, 49, 59, 32, 125]⟩
def exToks : List TokS := [⟨0, ⟨#[109, 101, 115, 115, 97, 103, 101]⟩, 0, 0⟩, ⟨0, ⟨#[65]⟩, 0, 8⟩, ⟨3, ⟨#[123]⟩, 0, 10⟩, ⟨0, ⟨#[105, 110, 116, 54, 52]⟩, 0, 12⟩, ⟨0, ⟨#[97]⟩, 0, 18⟩, ⟨3, ⟨#[61]⟩, 0, 20⟩, ⟨1, ⟨#[49]⟩, 1, 22⟩, ⟨3, ⟨#[59]⟩, 0, 23⟩, ⟨3, ⟨#[125]⟩, 0, 25⟩]
theorem allF_exP : allF exText = (exToks, 26, 0) := by
  have e1 : lex1 [109, 101, 115, 115, 97, 103, 101, 32, 65, 32, 123, 32, 105, 110, 116, 54, 52, 32, 97, 32, 61, 32, 49, 59, 32, 125] = some (0, [109, 101, 115, 115, 97, 103, 101], 0, 7) := by decide
  have e2 : lex1 [65, 32, 123, 32, 105, 110, 116, 54, 52, 32, 97, 32, 61, 32, 49, 59, 32, 125] = some (0, [65], 0, 1) := by decide
  have e3 : lex1 [123, 32, 105, 110, 116, 54, 52, 32, 97, 32, 61, 32, 49, 59, 32, 125] = some (3, [123], 0, 1) := by decide
  have e4 : lex1 [105, 110, 116, 54, 52, 32, 97, 32, 61, 32, 49, 59, 32, 125] = some (0, [105, 110, 116, 54, 52], 0, 5) := by decide
  have e5 : lex1 [97, 32, 61, 32, 49, 59, 32, 125] = some (0, [97], 0, 1) := by decide
  have e6 : lex1 [61, 32, 49, 59, 32, 125] = some (3, [61], 0, 1) := by decide
  have e8 : lex1 [59, 32, 125] = some (3, [59], 0, 1) := by decide
  have e9 : lex1 [125] = some (3, [125], 0, 1) := by decide
  have s0 : skipN false [109, 101, 115, 115, 97, 103, 101, 32, 65, 32, 123, 32, 105, 110, 116, 54, 52, 32, 97, 32, 61, 32, 49, 59, 32, 125] = 0 := by decide
  have s1 : skipN false [32, 65, 32, 123, 32, 105, 110, 116, 54, 52, 32, 97, 32, 61, 32, 49, 59, 32, 125] = 1 := by decide
  have s2 : skipN false [32, 123, 32, 105, 110, 116, 54, 52, 32, 97, 32, 61, 32, 49, 59, 32, 125] = 1 := by decide
  have s3 : skipN false [32, 105, 110, 116, 54, 52, 32, 97, 32, 61, 32, 49, 59, 32, 125] = 1 := by decide
  have s4 : skipN false [32, 97, 32, 61, 32, 49, 59, 32, 125] = 1 := by decide
  have s5 : skipN false [32, 61, 32, 49, 59, 32, 125] = 1 := by decide
  have s6 : skipN false [32, 49, 59, 32, 125] = 1 := by decide
  have s7 : skipN false [59, 32, 125] = 0 := by decide
  have s8 : skipN false [32, 125] = 1 := by decide
  have s9 : skipN false [] = 0 := by decide
  have b : bl exText = [109, 101, 115, 115, 97, 103, 101, 32, 65, 32, 123, 32, 105, 110, 116, 54, 52, 32, 97, 32, 61, 32, 49, 59, 32, 125] := rfl
  have z : exText.size = 26 := rfl
  unfold allF allL
  rw [z, if_neg (by omega), b, s0]
  simp only [List.length_cons, List.length_nil, List.drop_zero, lexL, e1, e2, e3, e4, e5, e6, lex_1, e8, e9, s1, s2, s3, s4, s5, s6, s7, s8, s9, List.drop_succ_cons, List.drop_nil, endL, List.nil_append, z]
  rfl
def exF : FieldS := ⟨⟨#[105, 110, 116, 54, 52]⟩, ⟨#[]⟩, false, 0, ⟨#[97]⟩, 1, 12⟩
def exM : MsgS := ⟨⟨#[65]⟩, [exF], [], [], 0⟩
theorem parse_exP : parseF exText = (([exM], []), 26, 0) := by
  have z : exText.size = 26 := rfl
  have h : pAll 26 exToks = (([exM], []), ⟨[], false⟩) := by rfl
  unfold parseF
  rw [allF_exP, z]
  show (if ((0 : Int) ≠ 0) then _ else if (pAll 26 exToks).2.b = true then _ else ((pAll 26 exToks).1, (26 : Int), (0 : Int))) = _
  rw [if_neg (by decide), h]
  rfl
theorem dig_1 : dig 1 = ⟨#[49]⟩ := by unfold dig; rw [itoa_1]
theorem print_exP : printL [exM] [] = [109, 101, 115, 115, 97, 103, 101, 32, 65, 32, 123, 10, 32, 32, 105, 110, 116, 54, 52, 32, 97, 32, 61, 32, 49, 59, 10, 125, 10] := by
  have h0 : fieldParts exF = [⟨#[105, 110, 116, 54, 52]⟩, ⟨#[32]⟩, ⟨#[97]⟩, ⟨#[32, 61, 32]⟩, ⟨#[49]⟩, ⟨#[59]⟩] := by
    unfold fieldParts
    rw [show exF.f5 = 1 from rfl, dig_1]
    have hk : kindB exF = ⟨#[105, 110, 116, 54, 52]⟩ := by
      unfold kindB
      rw [if_neg (by rw [show exF.f1 = (⟨#[]⟩ : ByteArray) from rfl, toList_bl]; decide), if_neg (by decide)]
      rfl
    rw [hk]
    rfl
  have h1 : outL exM exM.f1.length = lineL 1 [⟨#[105, 110, 116, 54, 52]⟩, ⟨#[32]⟩, ⟨#[97]⟩, ⟨#[32, 61, 32]⟩, ⟨#[49]⟩, ⟨#[59]⟩] := by
    show [] ++ pieceL exM 0 exF = _
    unfold pieceL
    rw [if_pos (by decide), h0]
    rfl
  unfold printL flatL
  show ([msgL exM] : List (List UInt8)).flatten ++ [] = _
  unfold msgL
  rw [h1]
  rfl
theorem ok_exP : PrintOk [exM] [] := by
  refine ⟨fun m hm => ?_, fun e he => absurd he List.not_mem_nil, ?_⟩
  · obtain rfl := List.mem_singleton.1 hm
    refine ⟨fun f hf => ?_, fun n hn => absurd hn List.not_mem_nil, by decide, by decide⟩
    obtain rfl := List.mem_singleton.1 hf
    unfold rngI
    decide
  · rw [print_exP]
    decide
theorem awake07_true : trufflelaw07_awake.f = some true := by
  unfold trufflelaw07_awake.f proto_Parse.f
  have hp := parse_exP
  unfold exText at hp
  rw [hp, Option.bind_some]
  have hpr : proto_Print.f [exM] [] = some ⟨#[109, 101, 115, 115, 97, 103, 101, 32, 65, 32, 123, 10, 32, 32, 105, 110, 116, 54, 52, 32, 97, 32, 61, 32, 49, 59, 10, 125, 10]⟩ := by
    unfold proto_Print.f
    rw [if_pos ok_exP, print_exP]
  have h4 : ((rd_T36 ((rd_T34 [exM] 0).f1) 0).f4).toList = [97] := by rw [toList_bl]; rfl
  rw [if_pos (by rfl), if_pos (by rfl), if_pos (by rfl), if_pos (by decide), if_pos (by rfl), if_pos (by decide), if_pos h4, hpr]
  simp only [Option.bind_some, toList_bl]
  rfl
theorem trufflelaw07_awake.calls (r : Bool) (w : World) (hG : GInv w) (h : trufflelaw07_awake.f = some r) :
    Calls Tryz.prog 12 #[] w fun e w' => e = .returned (.bool r) ∧ Below w.heap.size w w' := by
  have hr : r = true := by rw [awake07_true] at h; exact (Option.some.inj h).symm
  subst hr
  exact trufflelaw07_awake.callsT w hG h
end Go.Proofs.YtddpjjhekhompaaGreatDoor.P
namespace Go.Proofs.YtddpjjhekhompaaGreatDoor.P
open Go.RowKit Go.Proofs.YtddpjjhekhompaaGreatDoorW.PrintWords Go.Proofs.YtddpjjhekhompaaGreatDoorW.PrintLast Go.Proofs.YtddpjjhekhompaaGreatDoorW.PrintMore
set_option linter.unusedVariables false
set_option linter.unusedSimpArgs false
def slices_Equal_string_string.l0 : Nat → List ByteArray → List ByteArray → Int → Int → Option (Bool)
  | 0, _, _, _, _ => none
  | k + 1, x0, x1, x12, x13 => if x13 < x12 then (if 0 ≤ x13 then (if x13 < (x0.length : Int) then (if x13 < (x1.length : Int) then (if (rdOf ByteArray.empty x0 x13).toList = (rdOf ByteArray.empty x1 x13).toList then (slices_Equal_string_string.l0 k x0 x1 x12 (wrap64 (x13 + 1))) else (some false)) else (none)) else (none)) else (none)) else (some true)
def slices_Equal_string_string.f (k : Nat) (l0 : List ByteArray) (l1 : List ByteArray) : Option (Bool) := if (l0.length : Int) = (l1.length : Int) then (slices_Equal_string_string.l0 k l0 l1 (l0.length : Int) 0) else (some false)
set_option maxHeartbeats 8000000 in
set_option maxRecDepth 100000 in
theorem slices_Equal_string_string.calls (k : Nat) (A0 : Option Addr) (c0 : Nat) (l0 : List ByteArray) (A1 : Option Addr) (c1 : Nat) (l1 : List ByteArray) (r : Bool) (w : World) (hr0 : Kd.C Kd.string w A0 l0.length l0) (hc0 : l0.length ≤ c0) (hr1 : Kd.C Kd.string w A1 l1.length l1) (hc1 : l1.length ≤ c1) (h : slices_Equal_string_string.f k l0 l1 = some r) :
    Calls Tryz.prog 48 #[.slice A0 l0.length c0, .slice A1 l1.length c1] w fun e w' => e = .returned (.bool r) ∧ Drawn0 w w' := by
  have HR0 := Aside0.mk hr0
  have HC0 := Aside0.mk hc0
  clear hr0 hc0
  have HR1 := Aside0.mk hr1
  have HC1 := Aside0.mk hc1
  clear hr1 hc1
  have H : (if (l0.length : Int) = (l1.length : Int) then (slices_Equal_string_string.l0 k l0 l1 (l0.length : Int) 0) else (some false)) = some r := h
  clear h
  by_cases c3 : (l0.length : Int) = (l1.length : Int)
  · rw [if_pos c3] at H
    have c3b0 : ((l0.length : Int) == (l1.length : Int)) = true := beq_iff_eq.mpr c3
    have c3b1 : ((l0.length : Int) != (l1.length : Int)) = false := bne_eq_false_iff_eq.mpr c3
    have c3b2 : (l0.length == l1.length) = true := by first | simpa using c3 | (simp at c3 ⊢; omega)
    clear c3
    have H' := Aside0.mk H
    clear H
    go_enter Tryz.func48, Tryz.ntmps48
    go_wp2
    repeat (go_quiet (fail); try go_wp2)
    go_loopg [13] k (fun kq v13 w' => ∃ (x13_1 : Int), v13 = .int .i64 x13_1 ∧ Aside0 (slices_Equal_string_string.l0 kq l0 l1 (l0.length : Int) x13_1 = some r) ∧ Aside0 (kq ≤ k) ∧ Drawn0 w w')
    case atStart => exact ⟨(0), (by first | rfl | (simp; done) | (simp [*]; done)), H', ⟨Nat.le_refl _⟩, by repeat (first | exact Drawn0.refl _ | apply Drawn0.step)⟩
    case round =>
      clear H'
      try clear c1
      try clear p2
      try clear c3
      try clear c3b0
      try clear c3b1
      try clear c3b2
      obtain ⟨x13_1, rfl, HA, HK1, ⟨m1, rfl⟩⟩ := hrel
      cases gk with
      | zero => exact absurd HA.out (by simp [slices_Equal_string_string.l0])
      | succ k1 =>
        have H := HA.out
        clear HA
        simp only [slices_Equal_string_string.l0] at H
        by_cases c4 : x13_1 < (l0.length : Int)
        · rw [if_pos c4] at H
          have c4b0 : decide (x13_1 < (l0.length : Int)) = true := decide_eq_true c4
          clear c4
          by_cases c5 : 0 ≤ x13_1
          · rw [if_pos c5] at H
            have c5b0 : decide (0 ≤ x13_1) = true := decide_eq_true c5
            clear c5
            by_cases c6 : x13_1 < (l0.length : Int)
            · rw [if_pos c6] at H
              have c6b0 : decide (x13_1 < (l0.length : Int)) = true := decide_eq_true c6
              clear c6
              by_cases c7 : x13_1 < (l1.length : Int)
              · rw [if_pos c7] at H
                have c7b0 : decide (x13_1 < (l1.length : Int)) = true := decide_eq_true c7
                clear c7
                by_cases c8 : (rdOf ByteArray.empty l0 x13_1).toList = (rdOf ByteArray.empty l1 x13_1).toList
                · rw [if_pos c8] at H
                  have c8b0 : ((rdOf ByteArray.empty l0 x13_1).toList == (rdOf ByteArray.empty l1 x13_1).toList) = true := beq_iff_eq.mpr c8
                  have c8b1 : ((rdOf ByteArray.empty l0 x13_1).toList != (rdOf ByteArray.empty l1 x13_1).toList) = false := bne_eq_false_iff_eq.mpr c8
                  clear c8
                  have H' := Aside0.mk H
                  clear H
                  have p155 : 0 ≤ (x13_1 : Int) := of_decide_eq_true (by first | (with_reducible assumption) | assumption)
                  have q155 : x13_1 < (l0.length : Int) := of_decide_eq_true (by first | (with_reducible assumption) | assumption)
                  obtain ⟨ad155, e155, hx155_0⟩ := Kd.at_string HR0.out x13_1 p155 q155
                  cases e155
                  replace p155 := eq_true p155
                  replace q155 := eq_true q155
                  have p156 : 0 ≤ (x13_1 : Int) := of_decide_eq_true (by first | (with_reducible assumption) | assumption)
                  have q156 : x13_1 < (l1.length : Int) := of_decide_eq_true (by first | (with_reducible assumption) | assumption)
                  obtain ⟨ad156, e156, hx156_0⟩ := Kd.at_string HR1.out x13_1 p156 q156
                  cases e156
                  replace p156 := eq_true p156
                  replace q156 := eq_true q156
                  go_wp2
                  repeat (go_quiet (fail); try go_wp2)
                  go_roundg k1
                  case measure => have := HK1.out; omega
                  case rel => exact ⟨(wrap64 (x13_1 + 1)), (by first | rfl | (simp; done) | (simp [*]; done)), H', ⟨by have := HK1.out; omega⟩, by repeat (first | exact Drawn0.refl _ | apply Drawn0.step)⟩
                · rw [if_neg c8] at H
                  have c8b0 : ((rdOf ByteArray.empty l0 x13_1).toList == (rdOf ByteArray.empty l1 x13_1).toList) = false := beq_eq_false_iff_ne.mpr c8
                  have c8b1 : ((rdOf ByteArray.empty l0 x13_1).toList != (rdOf ByteArray.empty l1 x13_1).toList) = true := bne_iff_ne.mpr c8
                  obtain rfl := Option.some.inj H
                  have p155 : 0 ≤ (x13_1 : Int) := of_decide_eq_true (by first | (with_reducible assumption) | assumption)
                  have q155 : x13_1 < (l0.length : Int) := of_decide_eq_true (by first | (with_reducible assumption) | assumption)
                  obtain ⟨ad155, e155, hx155_0⟩ := Kd.at_string HR0.out x13_1 p155 q155
                  cases e155
                  replace p155 := eq_true p155
                  replace q155 := eq_true q155
                  have p156 : 0 ≤ (x13_1 : Int) := of_decide_eq_true (by first | (with_reducible assumption) | assumption)
                  have q156 : x13_1 < (l1.length : Int) := of_decide_eq_true (by first | (with_reducible assumption) | assumption)
                  obtain ⟨ad156, e156, hx156_0⟩ := Kd.at_string HR1.out x13_1 p156 q156
                  cases e156
                  replace p156 := eq_true p156
                  replace q156 := eq_true q156
                  go_wp2
                  repeat (go_quiet (fail); try go_wp2)
                  go_ret
                  exact ⟨by first | rfl | (simp; done) | (simp [*]; done), by repeat (first | exact Drawn0.refl _ | apply Drawn0.step)⟩
              · rw [if_neg c7] at H
                exact absurd H (by simp)
            · rw [if_neg c6] at H
              exact absurd H (by simp)
          · rw [if_neg c5] at H
            exact absurd H (by simp)
        · rw [if_neg c4] at H
          have c4b0 : decide (x13_1 < (l0.length : Int)) = false := decide_eq_false c4
          clear c4
          obtain rfl := Option.some.inj H
          go_wp2
          repeat (go_quiet (fail); try go_wp2)
          go_ret
          exact ⟨by first | rfl | (simp; done) | (simp [*]; done), by repeat (first | exact Drawn0.refl _ | apply Drawn0.step)⟩
  · rw [if_neg c3] at H
    have c3b0 : ((l0.length : Int) == (l1.length : Int)) = false := beq_eq_false_iff_ne.mpr c3
    have c3b1 : ((l0.length : Int) != (l1.length : Int)) = true := bne_iff_ne.mpr c3
    have c3b2 : (l0.length == l1.length) = false := by first | simpa using c3 | (simp at c3 ⊢; omega)
    obtain rfl := Option.some.inj H
    go_enter Tryz.func48, Tryz.ntmps48
    go_wp2
    repeat (go_quiet (fail); try go_wp2)
    go_ret
    exact ⟨by first | rfl | (simp; done) | (simp [*]; done), by repeat (first | exact Drawn0.refl _ | apply Drawn0.step)⟩
end Go.Proofs.YtddpjjhekhompaaGreatDoor.P
namespace Go.Proofs.YtddpjjhekhompaaGreatDoor.P
open Go.RowKit Go.Proofs.YtddpjjhekhompaaGreatDoorW.PrintWords Go.Proofs.YtddpjjhekhompaaGreatDoorW.PrintLast Go.Proofs.YtddpjjhekhompaaGreatDoorW.PrintMore
set_option linter.unusedVariables false
set_option linter.unusedSimpArgs false
def slices_Equal_int64_int64.l0 : Nat → List Int → List Int → Int → Int → Option (Bool)
  | 0, _, _, _, _ => none
  | k + 1, x0, x1, x12, x13 => if x13 < x12 then (if 0 ≤ x13 then (if x13 < (x0.length : Int) then (if x13 < (x1.length : Int) then (if (rd x0 x13) = (rd x1 x13) then (slices_Equal_int64_int64.l0 k x0 x1 x12 (wrap64 (x13 + 1))) else (some false)) else (none)) else (none)) else (none)) else (some true)
def slices_Equal_int64_int64.f (k : Nat) (l0 : List Int) (l1 : List Int) : Option (Bool) := if (l0.length : Int) = (l1.length : Int) then (slices_Equal_int64_int64.l0 k l0 l1 (l0.length : Int) 0) else (some false)
set_option maxHeartbeats 8000000 in
set_option maxRecDepth 100000 in
theorem slices_Equal_int64_int64.calls (k : Nat) (A0 : Option Addr) (c0 : Nat) (l0 : List Int) (A1 : Option Addr) (c1 : Nat) (l1 : List Int) (r : Bool) (w : World) (hr0 : Kd.C (Kd.int .i64) w A0 l0.length l0) (hc0 : l0.length ≤ c0) (hr1 : Kd.C (Kd.int .i64) w A1 l1.length l1) (hc1 : l1.length ≤ c1) (h : slices_Equal_int64_int64.f k l0 l1 = some r) :
    Calls Tryz.prog 49 #[.slice A0 l0.length c0, .slice A1 l1.length c1] w fun e w' => e = .returned (.bool r) ∧ Drawn0 w w' := by
  have HR0 := Aside0.mk hr0
  have HC0 := Aside0.mk hc0
  clear hr0 hc0
  have HR1 := Aside0.mk hr1
  have HC1 := Aside0.mk hc1
  clear hr1 hc1
  have H : (if (l0.length : Int) = (l1.length : Int) then (slices_Equal_int64_int64.l0 k l0 l1 (l0.length : Int) 0) else (some false)) = some r := h
  clear h
  by_cases c3 : (l0.length : Int) = (l1.length : Int)
  · rw [if_pos c3] at H
    have c3b0 : ((l0.length : Int) == (l1.length : Int)) = true := beq_iff_eq.mpr c3
    have c3b1 : ((l0.length : Int) != (l1.length : Int)) = false := bne_eq_false_iff_eq.mpr c3
    have c3b2 : (l0.length == l1.length) = true := by first | simpa using c3 | (simp at c3 ⊢; omega)
    clear c3
    have H' := Aside0.mk H
    clear H
    go_enter Tryz.func49, Tryz.ntmps49
    go_wp2
    repeat (go_quiet (fail); try go_wp2)
    go_loopg [13] k (fun kq v13 w' => ∃ (x13_1 : Int), v13 = .int .i64 x13_1 ∧ Aside0 (slices_Equal_int64_int64.l0 kq l0 l1 (l0.length : Int) x13_1 = some r) ∧ Aside0 (kq ≤ k) ∧ Drawn0 w w')
    case atStart => exact ⟨(0), (by first | rfl | (simp; done) | (simp [*]; done)), H', ⟨Nat.le_refl _⟩, by repeat (first | exact Drawn0.refl _ | apply Drawn0.step)⟩
    case round =>
      clear H'
      try clear c1
      try clear p2
      try clear c3
      try clear c3b0
      try clear c3b1
      try clear c3b2
      obtain ⟨x13_1, rfl, HA, HK1, ⟨m1, rfl⟩⟩ := hrel
      cases gk with
      | zero => exact absurd HA.out (by simp [slices_Equal_int64_int64.l0])
      | succ k1 =>
        have H := HA.out
        clear HA
        simp only [slices_Equal_int64_int64.l0] at H
        by_cases c4 : x13_1 < (l0.length : Int)
        · rw [if_pos c4] at H
          have c4b0 : decide (x13_1 < (l0.length : Int)) = true := decide_eq_true c4
          clear c4
          by_cases c5 : 0 ≤ x13_1
          · rw [if_pos c5] at H
            have c5b0 : decide (0 ≤ x13_1) = true := decide_eq_true c5
            clear c5
            by_cases c6 : x13_1 < (l0.length : Int)
            · rw [if_pos c6] at H
              have c6b0 : decide (x13_1 < (l0.length : Int)) = true := decide_eq_true c6
              clear c6
              by_cases c7 : x13_1 < (l1.length : Int)
              · rw [if_pos c7] at H
                have c7b0 : decide (x13_1 < (l1.length : Int)) = true := decide_eq_true c7
                clear c7
                by_cases c8 : (rd l0 x13_1) = (rd l1 x13_1)
                · rw [if_pos c8] at H
                  have c8b0 : ((rd l0 x13_1) == (rd l1 x13_1)) = true := beq_iff_eq.mpr c8
                  have c8b1 : ((rd l0 x13_1) != (rd l1 x13_1)) = false := bne_eq_false_iff_eq.mpr c8
                  clear c8
                  have H' := Aside0.mk H
                  clear H
                  have p157 : 0 ≤ (x13_1 : Int) := of_decide_eq_true (by first | (with_reducible assumption) | assumption)
                  have q157 : x13_1 < (l0.length : Int) := of_decide_eq_true (by first | (with_reducible assumption) | assumption)
                  obtain ⟨ad157, e157, hx157_0⟩ := Kd.at_int HR0.out x13_1 p157 q157
                  cases e157
                  replace p157 := eq_true p157
                  replace q157 := eq_true q157
                  have p158 : 0 ≤ (x13_1 : Int) := of_decide_eq_true (by first | (with_reducible assumption) | assumption)
                  have q158 : x13_1 < (l1.length : Int) := of_decide_eq_true (by first | (with_reducible assumption) | assumption)
                  obtain ⟨ad158, e158, hx158_0⟩ := Kd.at_int HR1.out x13_1 p158 q158
                  cases e158
                  replace p158 := eq_true p158
                  replace q158 := eq_true q158
                  go_wp2
                  repeat (go_quiet (fail); try go_wp2)
                  go_roundg k1
                  case measure => have := HK1.out; omega
                  case rel => exact ⟨(wrap64 (x13_1 + 1)), (by first | rfl | (simp; done) | (simp [*]; done)), H', ⟨by have := HK1.out; omega⟩, by repeat (first | exact Drawn0.refl _ | apply Drawn0.step)⟩
                · rw [if_neg c8] at H
                  have c8b0 : ((rd l0 x13_1) == (rd l1 x13_1)) = false := beq_eq_false_iff_ne.mpr c8
                  have c8b1 : ((rd l0 x13_1) != (rd l1 x13_1)) = true := bne_iff_ne.mpr c8
                  obtain rfl := Option.some.inj H
                  have p157 : 0 ≤ (x13_1 : Int) := of_decide_eq_true (by first | (with_reducible assumption) | assumption)
                  have q157 : x13_1 < (l0.length : Int) := of_decide_eq_true (by first | (with_reducible assumption) | assumption)
                  obtain ⟨ad157, e157, hx157_0⟩ := Kd.at_int HR0.out x13_1 p157 q157
                  cases e157
                  replace p157 := eq_true p157
                  replace q157 := eq_true q157
                  have p158 : 0 ≤ (x13_1 : Int) := of_decide_eq_true (by first | (with_reducible assumption) | assumption)
                  have q158 : x13_1 < (l1.length : Int) := of_decide_eq_true (by first | (with_reducible assumption) | assumption)
                  obtain ⟨ad158, e158, hx158_0⟩ := Kd.at_int HR1.out x13_1 p158 q158
                  cases e158
                  replace p158 := eq_true p158
                  replace q158 := eq_true q158
                  go_wp2
                  repeat (go_quiet (fail); try go_wp2)
                  go_ret
                  exact ⟨by first | rfl | (simp; done) | (simp [*]; done), by repeat (first | exact Drawn0.refl _ | apply Drawn0.step)⟩
              · rw [if_neg c7] at H
                exact absurd H (by simp)
            · rw [if_neg c6] at H
              exact absurd H (by simp)
          · rw [if_neg c5] at H
            exact absurd H (by simp)
        · rw [if_neg c4] at H
          have c4b0 : decide (x13_1 < (l0.length : Int)) = false := decide_eq_false c4
          clear c4
          obtain rfl := Option.some.inj H
          go_wp2
          repeat (go_quiet (fail); try go_wp2)
          go_ret
          exact ⟨by first | rfl | (simp; done) | (simp [*]; done), by repeat (first | exact Drawn0.refl _ | apply Drawn0.step)⟩
  · rw [if_neg c3] at H
    have c3b0 : ((l0.length : Int) == (l1.length : Int)) = false := beq_eq_false_iff_ne.mpr c3
    have c3b1 : ((l0.length : Int) != (l1.length : Int)) = true := bne_iff_ne.mpr c3
    have c3b2 : (l0.length == l1.length) = false := by first | simpa using c3 | (simp at c3 ⊢; omega)
    obtain rfl := Option.some.inj H
    go_enter Tryz.func49, Tryz.ntmps49
    go_wp2
    repeat (go_quiet (fail); try go_wp2)
    go_ret
    exact ⟨by first | rfl | (simp; done) | (simp [*]; done), by repeat (first | exact Drawn0.refl _ | apply Drawn0.step)⟩
end Go.Proofs.YtddpjjhekhompaaGreatDoor.P
namespace Go.Proofs.YtddpjjhekhompaaGreatDoor.P
open Go.RowKit Go.Proofs.YtddpjjhekhompaaGreatDoorW.PrintWords Go.Proofs.YtddpjjhekhompaaGreatDoorW.PrintLast Go.Proofs.YtddpjjhekhompaaGreatDoorW.PrintMore
set_option linter.unusedVariables false
set_option linter.unusedSimpArgs false
theorem eqA36 (d : Nat) (w : World) (x0 y0 : ByteArray) (x1 y1 : ByteArray) (x2 y2 : Bool) (x3 y3 : Int) (x4 y4 : ByteArray) (x5 y5 : Int) (x6 y6 : Int) :
    (Op.equalIn (d + 2) 36 (.agg #[.string x0, .string x1, .bool x2, .int .i64 x3, .string x4, .int .i64 x5, .int .i64 x6]) (.agg #[.string y0, .string y1, .bool y2, .int .i64 y3, .string y4, .int .i64 y5, .int .i64 y6])).run Tryz.prog w = .ok (x0.toList == y0.toList && (x1.toList == y1.toList && (x2 == y2 && (x3 == y3 && (x4.toList == y4.toList && (x5 == y5 && (x6 == y6))))))) w := by
  refine eqA_of Tryz.underlying36 (by kernel_rfl) ?_
  refine eqf_cons (by rfl) (by go_simp; rfl) (by go_simp; rfl) (by go_simp) ?_
  refine eqf_cons (by rfl) (by go_simp; rfl) (by go_simp; rfl) (by go_simp) ?_
  refine eqf_cons (by rfl) (by go_simp; rfl) (by go_simp; rfl) (by go_simp) ?_
  refine eqf_cons (by rfl) (by go_simp; rfl) (by go_simp; rfl) (by go_simp) ?_
  refine eqf_cons (by rfl) (by go_simp; rfl) (by go_simp; rfl) (by go_simp) ?_
  refine eqf_cons (by rfl) (by go_simp; rfl) (by go_simp; rfl) (by go_simp) ?_
  exact eqf_last (by rfl) (by go_simp; rfl) (by go_simp; rfl) (by go_simp)
end Go.Proofs.YtddpjjhekhompaaGreatDoor.P
namespace Go.Proofs.YtddpjjhekhompaaGreatDoor.P
open Go.RowKit Go.Proofs.YtddpjjhekhompaaGreatDoorW.PrintWords Go.Proofs.YtddpjjhekhompaaGreatDoorW.PrintLast Go.Proofs.YtddpjjhekhompaaGreatDoorW.PrintMore
set_option linter.unusedVariables false
set_option linter.unusedSimpArgs false
attribute [local go_sem high] eqA36
def proto_Same_1.f (a0_0 : ByteArray) (a0_1 : ByteArray) (a0_2 : Bool) (a0_3 : Int) (a0_4 : ByteArray) (a0_5 : Int) (a0_6 : Int) (a1_0 : ByteArray) (a1_1 : ByteArray) (a1_2 : Bool) (a1_3 : Int) (a1_4 : ByteArray) (a1_5 : Int) (a1_6 : Int) : Option (Bool) := some (a0_0.toList == a1_0.toList && (a0_1.toList == a1_1.toList && (a0_2 == a1_2 && (a0_3 == a1_3 && (a0_4.toList == a1_4.toList && (a0_5 == a1_5))))))
set_option maxHeartbeats 8000000 in
set_option maxRecDepth 100000 in
theorem proto_Same_1.calls (a0_0 : ByteArray) (a0_1 : ByteArray) (a0_2 : Bool) (a0_3 : Int) (a0_4 : ByteArray) (a0_5 : Int) (a0_6 : Int) (a1_0 : ByteArray) (a1_1 : ByteArray) (a1_2 : Bool) (a1_3 : Int) (a1_4 : ByteArray) (a1_5 : Int) (a1_6 : Int) (r : Bool) (w : World) (h : proto_Same_1.f a0_0 a0_1 a0_2 a0_3 a0_4 a0_5 a0_6 a1_0 a1_1 a1_2 a1_3 a1_4 a1_5 a1_6 = some r) :
    Calls Tryz.prog 45 #[.agg #[.string a0_0, .string a0_1, .bool a0_2, .int .i64 a0_3, .string a0_4, .int .i64 a0_5, .int .i64 a0_6], .agg #[.string a1_0, .string a1_1, .bool a1_2, .int .i64 a1_3, .string a1_4, .int .i64 a1_5, .int .i64 a1_6]] w fun e w' => e = .returned (.bool r) ∧ Below w.heap.size w w' := by
  have hu36 := Tryz.underlying36
  have HB := Aside0.mk (Below.refl w.heap.size w)
  have H : (some (a0_0.toList == a1_0.toList && (a0_1.toList == a1_1.toList && (a0_2 == a1_2 && (a0_3 == a1_3 && (a0_4.toList == a1_4.toList && (a0_5 == a1_5))))))) = some r := h
  clear h
  obtain rfl := Option.some.inj H
  go_enter Tryz.func45, Tryz.ntmps45
  go_wp2_with (first | ((with_reducible refine gate_dst (N := 2) rfl ?_); refine box_event ?hg (N := 2) ?hd (cs := #[.string a0_0, .string a0_1, .bool a0_2, .int .i64 a0_3, .string a0_4, .int .i64 a0_5, .int .i64 a0_6]) (t := 36) ?hr ?_; (case hd => rfl); (case hg => rfl); (case hr => first | (go_simp; done) | (go_simp; rfl)); intro gb153 hg w3 hbox hb; have n0_ := Aside0.mk (below_step (by repeat (first | (with_reducible first | exact HB.out | apply below_alloc | apply pw_below_drewN | apply below_drew1) | exact HB.out)) hb); have n1_ := Aside0.mk (hbox); have n2_ := Aside0.mk ((by rw [hg]; exact (below_size (by repeat (first | (with_reducible first | exact HB.out | apply below_alloc | apply pw_below_drewN | apply below_drew1) | exact HB.out))) : w.heap.size ≤ gb153)); have n3_ := Aside0.mk ((by rw [hg]; exact (below_size (by repeat (first | (with_reducible first | exact HB.out | apply below_alloc | apply pw_below_drewN | apply below_drew1) | exact HB.out))) : w.heap.size ≤ gb153)); clear HB; have HB := n0_; have BK153 := n1_; have GW153 := n2_; have GE153 := n3_; clear n0_ n1_ n2_ n3_; clear hb hbox hg) | ((with_reducible refine gate_dst (N := 3) rfl ?_); refine box_event ?hg (N := 3) ?hd (cs := #[.string a1_0, .string a1_1, .bool a1_2, .int .i64 a1_3, .string a1_4, .int .i64 a1_5, .int .i64 a1_6]) (t := 36) ?hr ?_; (case hd => rfl); (case hg => rfl); (case hr => first | (go_simp; done) | (go_simp; rfl)); intro gb154 hg w4 hbox hb; have n0_ := Aside0.mk (blk_below (g := gb153) (o := .cells #[.string a0_0, .string a0_1, .bool a0_2, .int .i64 a0_3, .string a0_4, .int .i64 a0_5, .int .i64 a0_6] 36 (0, 0)) (by (with_reducible repeat (first | refine blk_drewN ?_ _ | refine blk_drew ?_ | refine blk_alloc ?_ _)); exact BK153.out) hb); have n1_ := Aside0.mk (below_step (by repeat (first | (with_reducible first | exact HB.out | apply below_alloc | apply pw_below_drewN | apply below_drew1 | refine below_set ?_ GE153.out) | exact HB.out)) hb); have n2_ := Aside0.mk (hbox); have n3_ := Aside0.mk ((by rw [hg]; exact (below_size (by repeat (first | (with_reducible first | exact HB.out | apply below_alloc | apply pw_below_drewN | apply below_drew1 | refine below_set ?_ GE153.out) | exact HB.out))) : w.heap.size ≤ gb154)); have n4_ := Aside0.mk ((by rw [hg]; exact (below_size (by repeat (first | (with_reducible first | exact HB.out | apply below_alloc | apply pw_below_drewN | apply below_drew1 | refine below_set ?_ GE153.out) | exact HB.out))) : w.heap.size ≤ gb154)); have n5_ := Aside0.mk ((by rw [hg]; exact Nat.ne_of_lt (blk_lt (g := gb153) (o := .cells #[.string a0_0, .string a0_1, .bool a0_2, .int .i64 a0_3, .string a0_4, .int .i64 a0_5, .int .i64 a0_6] 36 (0, 0)) (by (with_reducible repeat (first | refine blk_drewN ?_ _ | refine blk_drew ?_ | refine blk_alloc ?_ _)); exact BK153.out)) : gb153 ≠ gb154)); have n6_ := Aside0.mk ((by rw [hg]; exact Nat.ne_of_gt (blk_lt (g := gb153) (o := .cells #[.string a0_0, .string a0_1, .bool a0_2, .int .i64 a0_3, .string a0_4, .int .i64 a0_5, .int .i64 a0_6] 36 (0, 0)) (by (with_reducible repeat (first | refine blk_drewN ?_ _ | refine blk_drew ?_ | refine blk_alloc ?_ _)); exact BK153.out)) : gb154 ≠ gb153)); clear BK153; clear HB; have BK153 := n0_; have HB := n1_; have BK154 := n2_; have GW154 := n3_; have GE154 := n4_; have NB153_154 := n5_; have NB154_153 := n6_; clear n0_ n1_ n2_ n3_ n4_ n5_ n6_; clear hb hbox hg; have hnb5 := NB154_153.out; have hnc5 := NB153_154.out; have hcz6_0 : w4.cell? ⟨gb154, 0, none⟩ = some (.string a1_0) := (blk_cell BK154.out 0).trans rfl; have hcz6_1 : w4.cell? ⟨gb154, 1, none⟩ = some (.string a1_1) := (blk_cell BK154.out 1).trans rfl; have hcz6_2 : w4.cell? ⟨gb154, 2, none⟩ = some (.bool a1_2) := (blk_cell BK154.out 2).trans rfl; have hcz6_3 : w4.cell? ⟨gb154, 3, none⟩ = some (.int .i64 a1_3) := (blk_cell BK154.out 3).trans rfl; have hcz6_4 : w4.cell? ⟨gb154, 4, none⟩ = some (.string a1_4) := (blk_cell BK154.out 4).trans rfl; have hcz6_5 : w4.cell? ⟨gb154, 5, none⟩ = some (.int .i64 a1_5) := (blk_cell BK154.out 5).trans rfl; have hcz6_6 : w4.cell? ⟨gb154, 6, none⟩ = some (.int .i64 a1_6) := (blk_cell BK154.out 6).trans rfl; have hfz6_0 := blk_frozen BK154.out 0; have hfz6_1 := blk_frozen BK154.out 1; have hfz6_2 := blk_frozen BK154.out 2; have hfz6_3 := blk_frozen BK154.out 3; have hfz6_4 := blk_frozen BK154.out 4; have hfz6_5 := blk_frozen BK154.out 5; have hfz6_6 := blk_frozen BK154.out 6; have hcz7_0 : w4.cell? ⟨gb153, 0, none⟩ = some (.string a0_0) := (blk_cell BK153.out 0).trans rfl; have hcz7_1 : w4.cell? ⟨gb153, 1, none⟩ = some (.string a0_1) := (blk_cell BK153.out 1).trans rfl; have hcz7_2 : w4.cell? ⟨gb153, 2, none⟩ = some (.bool a0_2) := (blk_cell BK153.out 2).trans rfl; have hcz7_3 : w4.cell? ⟨gb153, 3, none⟩ = some (.int .i64 a0_3) := (blk_cell BK153.out 3).trans rfl; have hcz7_4 : w4.cell? ⟨gb153, 4, none⟩ = some (.string a0_4) := (blk_cell BK153.out 4).trans rfl; have hcz7_5 : w4.cell? ⟨gb153, 5, none⟩ = some (.int .i64 a0_5) := (blk_cell BK153.out 5).trans rfl; have hcz7_6 : w4.cell? ⟨gb153, 6, none⟩ = some (.int .i64 a0_6) := (blk_cell BK153.out 6).trans rfl; have hfz7_0 := blk_frozen BK153.out 0; have hfz7_1 := blk_frozen BK153.out 1; have hfz7_2 := blk_frozen BK153.out 2; have hfz7_3 := blk_frozen BK153.out 3; have hfz7_4 := blk_frozen BK153.out 4; have hfz7_5 := blk_frozen BK153.out 5; have hfz7_6 := blk_frozen BK153.out 6))
  go_ret
  exact ⟨by first | rfl | (simp [] <;> rfl) | (simp [*] <;> rfl), by repeat (first | (with_reducible first | exact HB.out | apply below_alloc | apply pw_below_drewN | apply below_drew1 | refine below_set ?_ GE153.out | refine below_set ?_ GE154.out) | exact HB.out)⟩
end Go.Proofs.YtddpjjhekhompaaGreatDoor.P
namespace Go.Proofs.YtddpjjhekhompaaGreatDoor.P
open Go.RowKit Go.Proofs.YtddpjjhekhompaaGreatDoorW.PrintWords Go.Proofs.YtddpjjhekhompaaGreatDoorW.PrintLast Go.Proofs.YtddpjjhekhompaaGreatDoorW.PrintMore
set_option linter.unusedVariables false
set_option linter.unusedSimpArgs false
def proto_Same_3.f (a0_0 : ByteArray) (a0_1 : Int) (a0_2 : Int) (a1_0 : ByteArray) (a1_1 : Int) (a1_2 : Int) : Option (Bool) := if a0_0.toList = a1_0.toList then (some (a0_1 == a1_1)) else (some false)
set_option maxHeartbeats 8000000 in
set_option maxRecDepth 100000 in
theorem proto_Same_3.calls (a0_0 : ByteArray) (a0_1 : Int) (a0_2 : Int) (a1_0 : ByteArray) (a1_1 : Int) (a1_2 : Int) (r : Bool) (w : World) (h : proto_Same_3.f a0_0 a0_1 a0_2 a1_0 a1_1 a1_2 = some r) :
    Calls Tryz.prog 50 #[.agg #[.string a0_0, .int .i64 a0_1, .int .i64 a0_2], .agg #[.string a1_0, .int .i64 a1_1, .int .i64 a1_2]] w fun e w' => e = .returned (.bool r) ∧ Below w.heap.size w w' := by
  have hu92 := Tryz.underlying92
  have HB := Aside0.mk (Below.refl w.heap.size w)
  have H : (if a0_0.toList = a1_0.toList then (some (a0_1 == a1_1)) else (some false)) = some r := h
  clear h
  by_cases c3 : a0_0.toList = a1_0.toList
  · rw [if_pos c3] at H
    have c3b0 : (a0_0.toList == a1_0.toList) = true := beq_iff_eq.mpr c3
    have c3b1 : (a0_0.toList != a1_0.toList) = false := bne_eq_false_iff_eq.mpr c3
    clear c3
    obtain rfl := Option.some.inj H
    go_enter Tryz.func50, Tryz.ntmps50
    go_wp2_with (first | ((with_reducible refine gate_dst (N := 2) rfl ?_); refine box_event ?hg (N := 2) ?hd (cs := #[.string a0_0, .int .i64 a0_1, .int .i64 a0_2]) (t := 92) ?hr ?_; (case hd => rfl); (case hg => rfl); (case hr => first | (go_simp; done) | (go_simp; rfl)); intro gb159 hg w4 hbox hb; have n0_ := Aside0.mk (below_step (by repeat (first | (with_reducible first | exact HB.out | apply below_alloc | apply pw_below_drewN | apply below_drew1) | exact HB.out)) hb); have n1_ := Aside0.mk (hbox); have n2_ := Aside0.mk ((by rw [hg]; exact (below_size (by repeat (first | (with_reducible first | exact HB.out | apply below_alloc | apply pw_below_drewN | apply below_drew1) | exact HB.out))) : w.heap.size ≤ gb159)); have n3_ := Aside0.mk ((by rw [hg]; exact (below_size (by repeat (first | (with_reducible first | exact HB.out | apply below_alloc | apply pw_below_drewN | apply below_drew1) | exact HB.out))) : w.heap.size ≤ gb159)); clear HB; have HB := n0_; have BK159 := n1_; have GW159 := n2_; have GE159 := n3_; clear n0_ n1_ n2_ n3_; clear hb hbox hg) | ((with_reducible refine gate_dst (N := 3) rfl ?_); refine box_event ?hg (N := 3) ?hd (cs := #[.string a1_0, .int .i64 a1_1, .int .i64 a1_2]) (t := 92) ?hr ?_; (case hd => rfl); (case hg => rfl); (case hr => first | (go_simp; done) | (go_simp; rfl)); intro gb160 hg w5 hbox hb; have n0_ := Aside0.mk (blk_below (g := gb159) (o := .cells #[.string a0_0, .int .i64 a0_1, .int .i64 a0_2] 92 (0, 0)) (by (with_reducible repeat (first | refine blk_drewN ?_ _ | refine blk_drew ?_ | refine blk_alloc ?_ _)); exact BK159.out) hb); have n1_ := Aside0.mk (below_step (by repeat (first | (with_reducible first | exact HB.out | apply below_alloc | apply pw_below_drewN | apply below_drew1 | refine below_set ?_ GE159.out) | exact HB.out)) hb); have n2_ := Aside0.mk (hbox); have n3_ := Aside0.mk ((by rw [hg]; exact (below_size (by repeat (first | (with_reducible first | exact HB.out | apply below_alloc | apply pw_below_drewN | apply below_drew1 | refine below_set ?_ GE159.out) | exact HB.out))) : w.heap.size ≤ gb160)); have n4_ := Aside0.mk ((by rw [hg]; exact (below_size (by repeat (first | (with_reducible first | exact HB.out | apply below_alloc | apply pw_below_drewN | apply below_drew1 | refine below_set ?_ GE159.out) | exact HB.out))) : w.heap.size ≤ gb160)); have n5_ := Aside0.mk ((by rw [hg]; exact Nat.ne_of_lt (blk_lt (g := gb159) (o := .cells #[.string a0_0, .int .i64 a0_1, .int .i64 a0_2] 92 (0, 0)) (by (with_reducible repeat (first | refine blk_drewN ?_ _ | refine blk_drew ?_ | refine blk_alloc ?_ _)); exact BK159.out)) : gb159 ≠ gb160)); have n6_ := Aside0.mk ((by rw [hg]; exact Nat.ne_of_gt (blk_lt (g := gb159) (o := .cells #[.string a0_0, .int .i64 a0_1, .int .i64 a0_2] 92 (0, 0)) (by (with_reducible repeat (first | refine blk_drewN ?_ _ | refine blk_drew ?_ | refine blk_alloc ?_ _)); exact BK159.out)) : gb160 ≠ gb159)); clear BK159; clear HB; have BK159 := n0_; have HB := n1_; have BK160 := n2_; have GW160 := n3_; have GE160 := n4_; have NB159_160 := n5_; have NB160_159 := n6_; clear n0_ n1_ n2_ n3_ n4_ n5_ n6_; clear hb hbox hg; have hnb6 := NB159_160.out; have hnc6 := NB160_159.out; have hcz7_0 : w5.cell? ⟨gb159, 0, none⟩ = some (.string a0_0) := (blk_cell BK159.out 0).trans rfl; have hcz7_1 : w5.cell? ⟨gb159, 1, none⟩ = some (.int .i64 a0_1) := (blk_cell BK159.out 1).trans rfl; have hcz7_2 : w5.cell? ⟨gb159, 2, none⟩ = some (.int .i64 a0_2) := (blk_cell BK159.out 2).trans rfl; have hfz7_0 := blk_frozen BK159.out 0; have hfz7_1 := blk_frozen BK159.out 1; have hfz7_2 := blk_frozen BK159.out 2; have hcz8_0 : w5.cell? ⟨gb160, 0, none⟩ = some (.string a1_0) := (blk_cell BK160.out 0).trans rfl; have hcz8_1 : w5.cell? ⟨gb160, 1, none⟩ = some (.int .i64 a1_1) := (blk_cell BK160.out 1).trans rfl; have hcz8_2 : w5.cell? ⟨gb160, 2, none⟩ = some (.int .i64 a1_2) := (blk_cell BK160.out 2).trans rfl; have hfz8_0 := blk_frozen BK160.out 0; have hfz8_1 := blk_frozen BK160.out 1; have hfz8_2 := blk_frozen BK160.out 2))
    go_ret
    exact ⟨by first | rfl | (simp [] <;> rfl) | (simp [*] <;> rfl), by repeat (first | (with_reducible first | exact HB.out | apply below_alloc | apply pw_below_drewN | apply below_drew1 | refine below_set ?_ GE159.out | refine below_set ?_ GE160.out) | exact HB.out)⟩
  · rw [if_neg c3] at H
    have c3b0 : (a0_0.toList == a1_0.toList) = false := beq_eq_false_iff_ne.mpr c3
    have c3b1 : (a0_0.toList != a1_0.toList) = true := bne_iff_ne.mpr c3
    obtain rfl := Option.some.inj H
    go_enter Tryz.func50, Tryz.ntmps50
    go_wp2_with (first | ((with_reducible refine gate_dst (N := 2) rfl ?_); refine box_event ?hg (N := 2) ?hd (cs := #[.string a0_0, .int .i64 a0_1, .int .i64 a0_2]) (t := 92) ?hr ?_; (case hd => rfl); (case hg => rfl); (case hr => first | (go_simp; done) | (go_simp; rfl)); intro gb159 hg w9 hbox hb; have n0_ := Aside0.mk (below_step (by repeat (first | (with_reducible first | exact HB.out | apply below_alloc | apply pw_below_drewN | apply below_drew1) | exact HB.out)) hb); have n1_ := Aside0.mk (hbox); have n2_ := Aside0.mk ((by rw [hg]; exact (below_size (by repeat (first | (with_reducible first | exact HB.out | apply below_alloc | apply pw_below_drewN | apply below_drew1) | exact HB.out))) : w.heap.size ≤ gb159)); have n3_ := Aside0.mk ((by rw [hg]; exact (below_size (by repeat (first | (with_reducible first | exact HB.out | apply below_alloc | apply pw_below_drewN | apply below_drew1) | exact HB.out))) : w.heap.size ≤ gb159)); clear HB; have HB := n0_; have BK159 := n1_; have GW159 := n2_; have GE159 := n3_; clear n0_ n1_ n2_ n3_; clear hb hbox hg) | ((with_reducible refine gate_dst (N := 3) rfl ?_); refine box_event ?hg (N := 3) ?hd (cs := #[.string a1_0, .int .i64 a1_1, .int .i64 a1_2]) (t := 92) ?hr ?_; (case hd => rfl); (case hg => rfl); (case hr => first | (go_simp; done) | (go_simp; rfl)); intro gb160 hg w10 hbox hb; have n0_ := Aside0.mk (blk_below (g := gb159) (o := .cells #[.string a0_0, .int .i64 a0_1, .int .i64 a0_2] 92 (0, 0)) (by (with_reducible repeat (first | refine blk_drewN ?_ _ | refine blk_drew ?_ | refine blk_alloc ?_ _)); exact BK159.out) hb); have n1_ := Aside0.mk (below_step (by repeat (first | (with_reducible first | exact HB.out | apply below_alloc | apply pw_below_drewN | apply below_drew1 | refine below_set ?_ GE159.out) | exact HB.out)) hb); have n2_ := Aside0.mk (hbox); have n3_ := Aside0.mk ((by rw [hg]; exact (below_size (by repeat (first | (with_reducible first | exact HB.out | apply below_alloc | apply pw_below_drewN | apply below_drew1 | refine below_set ?_ GE159.out) | exact HB.out))) : w.heap.size ≤ gb160)); have n4_ := Aside0.mk ((by rw [hg]; exact (below_size (by repeat (first | (with_reducible first | exact HB.out | apply below_alloc | apply pw_below_drewN | apply below_drew1 | refine below_set ?_ GE159.out) | exact HB.out))) : w.heap.size ≤ gb160)); have n5_ := Aside0.mk ((by rw [hg]; exact Nat.ne_of_lt (blk_lt (g := gb159) (o := .cells #[.string a0_0, .int .i64 a0_1, .int .i64 a0_2] 92 (0, 0)) (by (with_reducible repeat (first | refine blk_drewN ?_ _ | refine blk_drew ?_ | refine blk_alloc ?_ _)); exact BK159.out)) : gb159 ≠ gb160)); have n6_ := Aside0.mk ((by rw [hg]; exact Nat.ne_of_gt (blk_lt (g := gb159) (o := .cells #[.string a0_0, .int .i64 a0_1, .int .i64 a0_2] 92 (0, 0)) (by (with_reducible repeat (first | refine blk_drewN ?_ _ | refine blk_drew ?_ | refine blk_alloc ?_ _)); exact BK159.out)) : gb160 ≠ gb159)); clear BK159; clear HB; have BK159 := n0_; have HB := n1_; have BK160 := n2_; have GW160 := n3_; have GE160 := n4_; have NB159_160 := n5_; have NB160_159 := n6_; clear n0_ n1_ n2_ n3_ n4_ n5_ n6_; clear hb hbox hg; have hnb11 := NB159_160.out; have hnc11 := NB160_159.out; have hcz12_0 : w10.cell? ⟨gb159, 0, none⟩ = some (.string a0_0) := (blk_cell BK159.out 0).trans rfl; have hcz12_1 : w10.cell? ⟨gb159, 1, none⟩ = some (.int .i64 a0_1) := (blk_cell BK159.out 1).trans rfl; have hcz12_2 : w10.cell? ⟨gb159, 2, none⟩ = some (.int .i64 a0_2) := (blk_cell BK159.out 2).trans rfl; have hfz12_0 := blk_frozen BK159.out 0; have hfz12_1 := blk_frozen BK159.out 1; have hfz12_2 := blk_frozen BK159.out 2; have hcz13_0 : w10.cell? ⟨gb160, 0, none⟩ = some (.string a1_0) := (blk_cell BK160.out 0).trans rfl; have hcz13_1 : w10.cell? ⟨gb160, 1, none⟩ = some (.int .i64 a1_1) := (blk_cell BK160.out 1).trans rfl; have hcz13_2 : w10.cell? ⟨gb160, 2, none⟩ = some (.int .i64 a1_2) := (blk_cell BK160.out 2).trans rfl; have hfz13_0 := blk_frozen BK160.out 0; have hfz13_1 := blk_frozen BK160.out 1; have hfz13_2 := blk_frozen BK160.out 2))
    go_ret
    exact ⟨by first | rfl | (simp [] <;> rfl) | (simp [*] <;> rfl), by repeat (first | (with_reducible first | exact HB.out | apply below_alloc | apply pw_below_drewN | apply below_drew1 | refine below_set ?_ GE159.out | refine below_set ?_ GE160.out) | exact HB.out)⟩
end Go.Proofs.YtddpjjhekhompaaGreatDoor.P
namespace Go.Proofs.YtddpjjhekhompaaGreatDoor.P
open Go.RowKit Go.Proofs.YtddpjjhekhompaaGreatDoorW.PrintWords Go.Proofs.YtddpjjhekhompaaGreatDoorW.PrintLast Go.Proofs.YtddpjjhekhompaaGreatDoorW.PrintMore
set_option linter.unusedVariables false
set_option linter.unusedSimpArgs false
def SameP (w : World) (b : Bool) (e : Ending) (w' : World) : Prop := e = .returned (.bool b) ∧ Below w.heap.size w w'
def allEq {α β : Type} (g : α → β → Bool) : List α → List β → Bool
  | [], [] => true
  | x :: r, y :: s => g x y && allEq g r s
  | [], _ :: _ => false
  | _ :: _, [] => false
theorem allEq_len {α β : Type} (g : α → β → Bool) (l : List α) : ∀ m : List β, l.length ≠ m.length → allEq g l m = false := by
  induction l with
  | nil => intro m h; cases m with
    | nil => exact absurd rfl h
    | cons => rfl
  | cons x r ih => intro m h; cases m with
    | nil => rfl
    | cons y s => rw [allEq, ih s (by simpa using h), Bool.and_false]
theorem allEq_step {α β : Type} (g : α → β → Bool) (l : List α) (m : List β) (k : Nat) (hk : k < l.length) (hm : k < m.length) : allEq g (l.drop k) (m.drop k) = (g l[k] m[k] && allEq g (l.drop (k + 1)) (m.drop (k + 1))) := by
  rw [List.drop_eq_getElem_cons hk, List.drop_eq_getElem_cons hm, allEq]
def sameF (x y : S36) : Bool := (x.f0.toList == y.f0.toList && (x.f1.toList == y.f1.toList && (x.f2 == y.f2 && (x.f3 == y.f3 && (x.f4.toList == y.f4.toList && (x.f5 == y.f5))))))
def sameV (x y : S92) : Bool := if x.f0.toList = y.f0.toList then x.f1 == y.f1 else false
theorem same_f (x y : S36) (b : Bool) (hb : sameF x y = b) (W : World) : Calls Tryz.prog 45 #[.agg #[.string x.f0, .string x.f1, .bool x.f2, .int .i64 x.f3, .string x.f4, .int .i64 x.f5, .int .i64 x.f6], .agg #[.string y.f0, .string y.f1, .bool y.f2, .int .i64 y.f3, .string y.f4, .int .i64 y.f5, .int .i64 y.f6]] W (SameP W b) :=
  proto_Same_1.calls _ _ _ _ _ _ _ _ _ _ _ _ _ _ b W (by unfold proto_Same_1.f; rw [← hb]; rfl)
theorem same_v (x y : S92) (b : Bool) (hb : sameV x y = b) (W : World) : Calls Tryz.prog 50 #[.agg #[.string x.f0, .int .i64 x.f1, .int .i64 x.f2], .agg #[.string y.f0, .int .i64 y.f1, .int .i64 y.f2]] W (SameP W b) :=
  proto_Same_3.calls _ _ _ _ _ _ b W (by unfold proto_Same_3.f; unfold sameV at hb; rw [← hb]; split <;> rfl)
set_option maxRecDepth 100000 in
set_option maxHeartbeats 4000000 in
theorem eqf_F (l m : List (S36)) (A A2 : Option Addr) (c c2 : Nat) (w : World) (hC : k36.C w A l.length l) (hC2 : k36.C w A2 m.length m) (hc : l.length ≤ c) (hc2 : m.length ≤ c2) :
    Calls Tryz.prog 47 #[.slice A l.length c, .slice A2 m.length c2, .func (.func 45) #[] #[]] w (SameP w (allEq sameF l m)) := by
  have HC := Aside0.mk hC
  have HC2 := Aside0.mk hC2
  have hm1 := Kd.C_max hC
  have hm2 := Kd.C_max hC2
  clear hC hC2
  by_cases hlen : l.length = m.length
  · have d1 : ((l.length : Int) != (m.length : Int)) = false := by rw [bne_eq_false_iff_eq]; omega
    have HLEN := Aside0.mk hlen
    clear hlen
    go_enter Tryz.func47, Tryz.ntmps47
    go_wp2
    go_loopg [17] l.length (fun n v W => ∃ i : Nat, v = .int .i64 i ∧ Aside0 (allEq sameF (l.drop i) (m.drop i) = allEq sameF l m) ∧ Aside0 (Below w.heap.size w W) ∧ Aside0 (i + n = l.length))
    case atStart => exact ⟨0, rfl, ⟨rfl⟩, ⟨Below.refl _ _⟩, ⟨by omega⟩⟩
    case round =>
      obtain ⟨i, rfl, HS, HB, HN⟩ := hrel
      by_cases hlt : i < l.length
      · have hlt2 : i < m.length := by have := HLEN.out; omega
        have HT := Aside0.mk ((allEq_step sameF l m i hlt hlt2).symm.trans HS.out)
        clear HS
        have d3 : (0 : Int) ≤ (i : Int) := by omega
        have d4 : (i : Int) < (l.length : Int) := by omega
        have d4' : (i : Int) < (m.length : Int) := by omega
        obtain ⟨pad, phad, pz0, pz1, pz2, pz3, pz4, pz5, pz6⟩ := at_T36 HC.out i d3 d4
        obtain ⟨x, hx⟩ : ∃ x, x = l[i]'hlt := ⟨_, rfl⟩
        have phrd : rd_T36 l i = x := by unfold rd_T36; rw [hx, List.getD_eq_getElem?_getD]; simp [hlt, hlt2]
        rw [phrd] at pz0 pz1 pz2 pz3 pz4 pz5 pz6
        rw [Int.toNat_natCast] at pz0 pz1 pz2 pz3 pz4 pz5 pz6
        replace pz0 := (HB.out.cell (World.block_lt_of_cell? w _ pz0)).trans pz0
        replace pz1 := (HB.out.cell (World.block_lt_of_cell? w _ pz1)).trans pz1
        replace pz2 := (HB.out.cell (World.block_lt_of_cell? w _ pz2)).trans pz2
        replace pz3 := (HB.out.cell (World.block_lt_of_cell? w _ pz3)).trans pz3
        replace pz4 := (HB.out.cell (World.block_lt_of_cell? w _ pz4)).trans pz4
        replace pz5 := (HB.out.cell (World.block_lt_of_cell? w _ pz5)).trans pz5
        replace pz6 := (HB.out.cell (World.block_lt_of_cell? w _ pz6)).trans pz6
        clear phrd
        subst phad
        obtain ⟨qad, qhad, qz0, qz1, qz2, qz3, qz4, qz5, qz6⟩ := at_T36 HC2.out i d3 d4'
        obtain ⟨y, hy⟩ : ∃ y, y = m[i]'hlt2 := ⟨_, rfl⟩
        have qhrd : rd_T36 m i = y := by unfold rd_T36; rw [hy, List.getD_eq_getElem?_getD]; simp [hlt, hlt2]
        rw [qhrd] at qz0 qz1 qz2 qz3 qz4 qz5 qz6
        rw [Int.toNat_natCast] at qz0 qz1 qz2 qz3 qz4 qz5 qz6
        replace qz0 := (HB.out.cell (World.block_lt_of_cell? w _ qz0)).trans qz0
        replace qz1 := (HB.out.cell (World.block_lt_of_cell? w _ qz1)).trans qz1
        replace qz2 := (HB.out.cell (World.block_lt_of_cell? w _ qz2)).trans qz2
        replace qz3 := (HB.out.cell (World.block_lt_of_cell? w _ qz3)).trans qz3
        replace qz4 := (HB.out.cell (World.block_lt_of_cell? w _ qz4)).trans qz4
        replace qz5 := (HB.out.cell (World.block_lt_of_cell? w _ qz5)).trans qz5
        replace qz6 := (HB.out.cell (World.block_lt_of_cell? w _ qz6)).trans qz6
        clear qhrd
        subst qhad
        have qz0' := pw_cell_below (below_alloc (Below.refl _ wr) (.cells #[.string x.f0, .string x.f1, .bool x.f2, .int .i64 x.f3, .string x.f4, .int .i64 x.f5, .int .i64 x.f6] 36 (0, 0))) qz0
        have qz1' := pw_cell_below (below_alloc (Below.refl _ wr) (.cells #[.string x.f0, .string x.f1, .bool x.f2, .int .i64 x.f3, .string x.f4, .int .i64 x.f5, .int .i64 x.f6] 36 (0, 0))) qz1
        have qz2' := pw_cell_below (below_alloc (Below.refl _ wr) (.cells #[.string x.f0, .string x.f1, .bool x.f2, .int .i64 x.f3, .string x.f4, .int .i64 x.f5, .int .i64 x.f6] 36 (0, 0))) qz2
        have qz3' := pw_cell_below (below_alloc (Below.refl _ wr) (.cells #[.string x.f0, .string x.f1, .bool x.f2, .int .i64 x.f3, .string x.f4, .int .i64 x.f5, .int .i64 x.f6] 36 (0, 0))) qz3
        have qz4' := pw_cell_below (below_alloc (Below.refl _ wr) (.cells #[.string x.f0, .string x.f1, .bool x.f2, .int .i64 x.f3, .string x.f4, .int .i64 x.f5, .int .i64 x.f6] 36 (0, 0))) qz4
        have qz5' := pw_cell_below (below_alloc (Below.refl _ wr) (.cells #[.string x.f0, .string x.f1, .bool x.f2, .int .i64 x.f3, .string x.f4, .int .i64 x.f5, .int .i64 x.f6] 36 (0, 0))) qz5
        have qz6' := pw_cell_below (below_alloc (Below.refl _ wr) (.cells #[.string x.f0, .string x.f1, .bool x.f2, .int .i64 x.f3, .string x.f4, .int .i64 x.f5, .int .i64 x.f6] 36 (0, 0))) qz6
        clear qz0 qz1 qz2 qz3 qz4 qz5 qz6
        rw [← hx, ← hy] at HT
        clear hx hy
        obtain ⟨b, hb⟩ : ∃ b, sameF x y = b := ⟨_, rfl⟩
        rw [hb] at HT
        have HBX := Aside0.mk hb
        clear hb
        cases gk with
        | zero => have := HN.out; omega
        | succ k1 =>
          cases b
          · have hF : Aside0 (false = allEq sameF l m) := ⟨by rw [← HT.out, Bool.false_and]⟩
            clear HT
            go_wp2_with (go_at_call 45; refine (same_f x y _ HBX.out _).mono ?_; rintro e W1 ⟨rfl, hB1⟩)
            go_ret
            exact ⟨by rw [← hF.out]; rfl, below_step (below_alloc (below_alloc HB.out _) _) hB1⟩
          · have hT : Aside0 (allEq sameF (l.drop (i + 1)) (m.drop (i + 1)) = allEq sameF l m) := ⟨by rw [← HT.out, Bool.true_and]⟩
            clear HT
            go_wp2_with (go_at_call 45; refine (same_f x y _ HBX.out _).mono ?_; rintro e W1 ⟨rfl, hB1⟩)
            go_roundg k1
            case measure => omega
            case rel => exact ⟨i + 1, by go_num, hT, ⟨below_step (below_alloc (below_alloc HB.out _) _) hB1⟩, ⟨by have := HN.out; omega⟩⟩
      · have hF : Aside0 (true = allEq sameF l m) := ⟨by rw [← HS.out, List.drop_of_length_le (by omega), List.drop_of_length_le (by have := HLEN.out; omega)]; rfl⟩
        clear HS
        go_wp2
        go_ret
        exact ⟨by rw [← hF.out]; rfl, HB.out⟩
  · have d1 : ((l.length : Int) != (m.length : Int)) = true := by rw [bne_iff_ne]; omega
    have HF := Aside0.mk (allEq_len sameF l m hlen)
    clear hlen
    go_enter Tryz.func47, Tryz.ntmps47
    rw [HF.out]
    go_wp2
    go_ret
    exact ⟨rfl, Below.refl _ _⟩
set_option maxRecDepth 100000 in
set_option maxHeartbeats 4000000 in
theorem eqf_V (l m : List (S92)) (A A2 : Option Addr) (c c2 : Nat) (w : World) (hC : k92.C w A l.length l) (hC2 : k92.C w A2 m.length m) (hc : l.length ≤ c) (hc2 : m.length ≤ c2) :
    Calls Tryz.prog 52 #[.slice A l.length c, .slice A2 m.length c2, .func (.func 50) #[] #[]] w (SameP w (allEq sameV l m)) := by
  have HC := Aside0.mk hC
  have HC2 := Aside0.mk hC2
  have hm1 := Kd.C_max hC
  have hm2 := Kd.C_max hC2
  clear hC hC2
  by_cases hlen : l.length = m.length
  · have d1 : ((l.length : Int) != (m.length : Int)) = false := by rw [bne_eq_false_iff_eq]; omega
    have HLEN := Aside0.mk hlen
    clear hlen
    go_enter Tryz.func52, Tryz.ntmps52
    go_wp2
    go_loopg [17] l.length (fun n v W => ∃ i : Nat, v = .int .i64 i ∧ Aside0 (allEq sameV (l.drop i) (m.drop i) = allEq sameV l m) ∧ Aside0 (Below w.heap.size w W) ∧ Aside0 (i + n = l.length))
    case atStart => exact ⟨0, rfl, ⟨rfl⟩, ⟨Below.refl _ _⟩, ⟨by omega⟩⟩
    case round =>
      obtain ⟨i, rfl, HS, HB, HN⟩ := hrel
      by_cases hlt : i < l.length
      · have hlt2 : i < m.length := by have := HLEN.out; omega
        have HT := Aside0.mk ((allEq_step sameV l m i hlt hlt2).symm.trans HS.out)
        clear HS
        have d3 : (0 : Int) ≤ (i : Int) := by omega
        have d4 : (i : Int) < (l.length : Int) := by omega
        have d4' : (i : Int) < (m.length : Int) := by omega
        obtain ⟨pad, phad, pz0, pz1, pz2⟩ := at_T92 HC.out i d3 d4
        obtain ⟨x, hx⟩ : ∃ x, x = l[i]'hlt := ⟨_, rfl⟩
        have phrd : rd_T92 l i = x := by unfold rd_T92; rw [hx, List.getD_eq_getElem?_getD]; simp [hlt, hlt2]
        rw [phrd] at pz0 pz1 pz2
        rw [Int.toNat_natCast] at pz0 pz1 pz2
        replace pz0 := (HB.out.cell (World.block_lt_of_cell? w _ pz0)).trans pz0
        replace pz1 := (HB.out.cell (World.block_lt_of_cell? w _ pz1)).trans pz1
        replace pz2 := (HB.out.cell (World.block_lt_of_cell? w _ pz2)).trans pz2
        clear phrd
        subst phad
        obtain ⟨qad, qhad, qz0, qz1, qz2⟩ := at_T92 HC2.out i d3 d4'
        obtain ⟨y, hy⟩ : ∃ y, y = m[i]'hlt2 := ⟨_, rfl⟩
        have qhrd : rd_T92 m i = y := by unfold rd_T92; rw [hy, List.getD_eq_getElem?_getD]; simp [hlt, hlt2]
        rw [qhrd] at qz0 qz1 qz2
        rw [Int.toNat_natCast] at qz0 qz1 qz2
        replace qz0 := (HB.out.cell (World.block_lt_of_cell? w _ qz0)).trans qz0
        replace qz1 := (HB.out.cell (World.block_lt_of_cell? w _ qz1)).trans qz1
        replace qz2 := (HB.out.cell (World.block_lt_of_cell? w _ qz2)).trans qz2
        clear qhrd
        subst qhad
        have qz0' := pw_cell_below (below_alloc (Below.refl _ wr) (.cells #[.string x.f0, .int .i64 x.f1, .int .i64 x.f2] 92 (0, 0))) qz0
        have qz1' := pw_cell_below (below_alloc (Below.refl _ wr) (.cells #[.string x.f0, .int .i64 x.f1, .int .i64 x.f2] 92 (0, 0))) qz1
        have qz2' := pw_cell_below (below_alloc (Below.refl _ wr) (.cells #[.string x.f0, .int .i64 x.f1, .int .i64 x.f2] 92 (0, 0))) qz2
        clear qz0 qz1 qz2
        rw [← hx, ← hy] at HT
        clear hx hy
        obtain ⟨b, hb⟩ : ∃ b, sameV x y = b := ⟨_, rfl⟩
        rw [hb] at HT
        have HBX := Aside0.mk hb
        clear hb
        cases gk with
        | zero => have := HN.out; omega
        | succ k1 =>
          cases b
          · have hF : Aside0 (false = allEq sameV l m) := ⟨by rw [← HT.out, Bool.false_and]⟩
            clear HT
            go_wp2_with (go_at_call 50; refine (same_v x y _ HBX.out _).mono ?_; rintro e W1 ⟨rfl, hB1⟩)
            go_ret
            exact ⟨by rw [← hF.out]; rfl, below_step (below_alloc (below_alloc HB.out _) _) hB1⟩
          · have hT : Aside0 (allEq sameV (l.drop (i + 1)) (m.drop (i + 1)) = allEq sameV l m) := ⟨by rw [← HT.out, Bool.true_and]⟩
            clear HT
            go_wp2_with (go_at_call 50; refine (same_v x y _ HBX.out _).mono ?_; rintro e W1 ⟨rfl, hB1⟩)
            go_roundg k1
            case measure => omega
            case rel => exact ⟨i + 1, by go_num, hT, ⟨below_step (below_alloc (below_alloc HB.out _) _) hB1⟩, ⟨by have := HN.out; omega⟩⟩
      · have hF : Aside0 (true = allEq sameV l m) := ⟨by rw [← HS.out, List.drop_of_length_le (by omega), List.drop_of_length_le (by have := HLEN.out; omega)]; rfl⟩
        clear HS
        go_wp2
        go_ret
        exact ⟨by rw [← hF.out]; rfl, HB.out⟩
  · have d1 : ((l.length : Int) != (m.length : Int)) = true := by rw [bne_iff_ne]; omega
    have HF := Aside0.mk (allEq_len sameV l m hlen)
    clear hlen
    go_enter Tryz.func52, Tryz.ntmps52
    rw [HF.out]
    go_wp2
    go_ret
    exact ⟨rfl, Below.refl _ _⟩
end Go.Proofs.YtddpjjhekhompaaGreatDoor.P
namespace Go.Proofs.YtddpjjhekhompaaGreatDoor.P
open Go.RowKit Go.Proofs.YtddpjjhekhompaaGreatDoorW.PrintWords Go.Proofs.YtddpjjhekhompaaGreatDoorW.PrintLast Go.Proofs.YtddpjjhekhompaaGreatDoorW.PrintMore
set_option linter.unusedVariables false
set_option linter.unusedSimpArgs false
def strEq (a b : ByteArray) : Bool := a.toList == b.toList
def intEq (a b : Int) : Bool := a == b
theorem equal_s (l m : List ByteArray) (h : l.length = m.length) (hb : l.length ≤ 9223372036854775807) : ∀ n i : Nat, i + n = l.length → slices_Equal_string_string.l0 (n + 1) l m (l.length : Int) (i : Int) = some (allEq strEq (l.drop i) (m.drop i))
  | 0, i, hi => by
    unfold slices_Equal_string_string.l0
    rw [if_neg (by omega), List.drop_of_length_le (by omega), List.drop_of_length_le (by omega)]
    rfl
  | n + 1, i, hi => by
    have h1 : i < l.length := by omega
    have h2 : i < m.length := by omega
    have r1 : rdOf ByteArray.empty l (i : Int) = l[i] := by unfold rdOf; simp [h1]
    have r2 : rdOf ByteArray.empty m (i : Int) = m[i] := by unfold rdOf; simp [h2]
    have hw : wrap64 ((i : Int) + 1) = ((i + 1 : Nat) : Int) := by unfold wrap64; omega
    unfold slices_Equal_string_string.l0
    rw [if_pos (by omega), if_pos (by omega), if_pos (by omega), if_pos (by omega), r1, r2, hw, equal_s l m h hb n (i + 1) (by omega), allEq_step strEq l m i h1 h2]
    unfold strEq
    by_cases e : l[i].toList = m[i].toList
    · rw [if_pos e, e]; simp
    · rw [if_neg e]
      have : (l[i].toList == m[i].toList) = false := beq_eq_false_iff_ne.2 e
      rw [this, Bool.false_and]
theorem equal_S (l m : List ByteArray) (hb : l.length ≤ 9223372036854775807) : slices_Equal_string_string.f (l.length + 1) l m = some (allEq strEq l m) := by
  unfold slices_Equal_string_string.f
  by_cases h : l.length = m.length
  · rw [if_pos (by omega)]
    exact equal_s l m h hb l.length 0 (by omega)
  · rw [if_neg (by omega), allEq_len strEq l m h]
theorem equal_i (l m : List Int) (h : l.length = m.length) (hb : l.length ≤ 9223372036854775807) : ∀ n i : Nat, i + n = l.length → slices_Equal_int64_int64.l0 (n + 1) l m (l.length : Int) (i : Int) = some (allEq intEq (l.drop i) (m.drop i))
  | 0, i, hi => by
    unfold slices_Equal_int64_int64.l0
    rw [if_neg (by omega), List.drop_of_length_le (by omega), List.drop_of_length_le (by omega)]
    rfl
  | n + 1, i, hi => by
    have h1 : i < l.length := by omega
    have h2 : i < m.length := by omega
    have r1 : rd l (i : Int) = l[i] := by unfold rd; simp [h1]
    have r2 : rd m (i : Int) = m[i] := by unfold rd; simp [h2]
    have hw : wrap64 ((i : Int) + 1) = ((i + 1 : Nat) : Int) := by unfold wrap64; omega
    unfold slices_Equal_int64_int64.l0
    rw [if_pos (by omega), if_pos (by omega), if_pos (by omega), if_pos (by omega), r1, r2, hw, equal_i l m h hb n (i + 1) (by omega), allEq_step intEq l m i h1 h2]
    unfold intEq
    by_cases e : l[i] = m[i]
    · rw [if_pos e, e]; simp
    · rw [if_neg e]
      have : (l[i] == m[i]) = false := beq_eq_false_iff_ne.2 e
      rw [this, Bool.false_and]
theorem equal_I (l m : List Int) (hb : l.length ≤ 9223372036854775807) : slices_Equal_int64_int64.f (l.length + 1) l m = some (allEq intEq l m) := by
  unfold slices_Equal_int64_int64.f
  by_cases h : l.length = m.length
  · rw [if_pos (by omega)]
    exact equal_i l m h hb l.length 0 (by omega)
  · rw [if_neg (by omega), allEq_len intEq l m h]
def sameM (x y : S34) : Bool := if x.f0.toList = y.f0.toList then (allEq sameF x.f1 y.f1 && (allEq strEq x.f2 y.f2 && allEq intEq x.f3 y.f3)) else false
def sameE (x y : S68) : Bool := if x.f0.toList = y.f0.toList then allEq sameV x.f1 y.f1 else false
set_option maxRecDepth 100000 in
set_option maxHeartbeats 4000000 in
theorem same_m (x y : S34) (pA1 pA2 pA3 qA1 qA2 qA3 : Option Addr) (pc1 pc2 pc3 qc1 qc2 qc3 p : Nat) (W : World) (hp : W.cell? ⟨p, 0, none⟩ = some (.func (.func 45) #[] #[]))
    (r1 : k36.C W pA1 x.f1.length x.f1) (r2 : Kd.string.C W pA2 x.f2.length x.f2) (r3 : (Kd.int .i64).C W pA3 x.f3.length x.f3) (s1 : k36.C W qA1 y.f1.length y.f1) (s2 : Kd.string.C W qA2 y.f2.length y.f2) (s3 : (Kd.int .i64).C W qA3 y.f3.length y.f3)
    (g1 : x.f1.length ≤ pc1) (g2 : x.f2.length ≤ pc2) (g3 : x.f3.length ≤ pc3) (h1 : y.f1.length ≤ qc1) (h2 : y.f2.length ≤ qc2) (h3 : y.f3.length ≤ qc3) :
    Calls Tryz.prog 46 #[.agg #[.string x.f0, .slice pA1 x.f1.length pc1, .slice pA2 x.f2.length pc2, .slice pA3 x.f3.length pc3, .int .i64 x.f4], .agg #[.string y.f0, .slice qA1 y.f1.length qc1, .slice qA2 y.f2.length qc2, .slice qA3 y.f3.length qc3, .int .i64 y.f4], .pointer (some ⟨p, 0, none⟩)] W (SameP W (sameM x y)) := by
  have hp2 : ∀ o o2, ((W.alloc o).alloc o2).cell? ⟨p, 0, none⟩ = some (.func (.func 45) #[] #[]) := fun o o2 => pw_cell_below (below_alloc (Below.refl _ _) _) (pw_cell_below (below_alloc (Below.refl _ _) _) hp)
  have R1 := Aside0.mk r1
  have R2 := Aside0.mk r2
  have R3 := Aside0.mk r3
  have S1 := Aside0.mk s1
  have S2 := Aside0.mk s2
  have S3 := Aside0.mk s3
  clear r1 r2 r3 s1 s2 s3 hp
  have hV : Aside0 (sameM x y = if x.f0.toList = y.f0.toList then (allEq sameF x.f1 y.f1 && (allEq strEq x.f2 y.f2 && allEq intEq x.f3 y.f3)) else false) := ⟨rfl⟩
  by_cases e : x.f0.toList = y.f0.toList
  · have b1 : (x.f0.toList == y.f0.toList) = true := beq_iff_eq.2 e
    have HV2 := Aside0.mk (hV.out.trans (if_pos e))
    clear e hV
    have hx0 := blk_alloc (blk_new W (.cells #[.string x.f0, .slice pA1 x.f1.length pc1, .slice pA2 x.f2.length pc2, .slice pA3 x.f3.length pc3, .int .i64 x.f4] 34 (0, 0))) (.cells #[.string y.f0, .slice qA1 y.f1.length qc1, .slice qA2 y.f2.length qc2, .slice qA3 y.f3.length qc3, .int .i64 y.f4] 34 (0, 0))
    have hy0 := blk_new (W.alloc (.cells #[.string x.f0, .slice pA1 x.f1.length pc1, .slice pA2 x.f2.length pc2, .slice pA3 x.f3.length pc3, .int .i64 x.f4] 34 (0, 0))) (.cells #[.string y.f0, .slice qA1 y.f1.length qc1, .slice qA2 y.f2.length qc2, .slice qA3 y.f3.length qc3, .int .i64 y.f4] 34 (0, 0))
    rw [World.size_alloc] at hy0
    have HB0 := Aside0.mk (below_alloc (below_alloc (Below.refl W.heap.size W) (.cells #[.string x.f0, .slice pA1 x.f1.length pc1, .slice pA2 x.f2.length pc2, .slice pA3 x.f3.length pc3, .int .i64 x.f4] 34 (0, 0))) (.cells #[.string y.f0, .slice qA1 y.f1.length qc1, .slice qA2 y.f2.length qc2, .slice qA3 y.f3.length qc3, .int .i64 y.f4] 34 (0, 0)))
    have HX0 := Aside0.mk hx0
    have HY0 := Aside0.mk hy0
    clear hx0 hy0
    go_enter Tryz.func46, Tryz.ntmps46
    go_wp2_with fail
    clear hp2
    generalize (W.alloc (.cells #[.string x.f0, .slice pA1 x.f1.length pc1, .slice pA2 x.f2.length pc2, .slice pA3 x.f3.length pc3, .int .i64 x.f4] 34 (0, 0))).alloc (.cells #[.string y.f0, .slice qA1 y.f1.length qc1, .slice qA2 y.f2.length qc2, .slice qA3 y.f3.length qc3, .int .i64 y.f4] 34 (0, 0)) = V0 at *
    go_at_call 47
    refine (eqf_F x.f1 y.f1 pA1 qA1 pc1 qc1 _ (Kd.C_below R1.out HB0.out) (Kd.C_below S1.out HB0.out) g1 h1).mono ?_
    rintro e1 W1 ⟨rfl, hB1⟩
    have HX1 := Aside0.mk (blk_below HX0.out hB1)
    have HY1 := Aside0.mk (blk_below HY0.out hB1)
    have HB1 := Aside0.mk (HB0.out.trans (hB1.mono HB0.out.size))
    clear HX0 HY0 HB0 hB1
    obtain ⟨b, hb⟩ : ∃ b, allEq sameF x.f1 y.f1 = b := ⟨_, rfl⟩
    rw [hb] at HV2 ⊢
    clear hb
    cases b
    · go_wp2_with fail
      go_ret
      exact ⟨by rw [HV2.out, Bool.false_and]; rfl, HB1.out⟩
    · have x2 : W1.cell? ⟨W.heap.size, 2, none⟩ = some (.slice pA2 x.f2.length pc2) := (blk_cell HX1.out 2).trans rfl
      have y2 : W1.cell? ⟨W.heap.size + 1, 2, none⟩ = some (.slice qA2 y.f2.length qc2) := (blk_cell HY1.out 2).trans rfl
      go_wp2_with fail
      clear x2 y2
      go_at_call 48
      refine (slices_Equal_string_string.calls _ pA2 pc2 x.f2 qA2 qc2 y.f2 _ _ (Kd.C_below R2.out HB1.out) g2 (Kd.C_below S2.out HB1.out) h2 (equal_S _ _ (Kd.C_max R2.out))).mono ?_
      rintro e2 W2 ⟨rfl, hd2⟩
      have HX2 := Aside0.mk (blk_below HX1.out hd2.below)
      have HY2 := Aside0.mk (blk_below HY1.out hd2.below)
      have HB2 := Aside0.mk (HB1.out.trans (drawn_below hd2 _))
      clear HX1 HY1 HB1 hd2
      obtain ⟨b, hb⟩ : ∃ b, allEq strEq x.f2 y.f2 = b := ⟨_, rfl⟩
      rw [hb] at HV2 ⊢
      clear hb
      cases b
      · go_wp2_with fail
        go_ret
        exact ⟨by rw [HV2.out, Bool.true_and, Bool.false_and]; rfl, HB2.out⟩
      · have x3 : W2.cell? ⟨W.heap.size, 3, none⟩ = some (.slice pA3 x.f3.length pc3) := (blk_cell HX2.out 3).trans rfl
        have y3 : W2.cell? ⟨W.heap.size + 1, 3, none⟩ = some (.slice qA3 y.f3.length qc3) := (blk_cell HY2.out 3).trans rfl
        go_wp2_with fail
        clear x3 y3
        go_at_call 49
        refine (slices_Equal_int64_int64.calls _ pA3 pc3 x.f3 qA3 qc3 y.f3 _ _ (Kd.C_below R3.out HB2.out) g3 (Kd.C_below S3.out HB2.out) h3 (equal_I _ _ (Kd.C_max R3.out))).mono ?_
        rintro e3 W3 ⟨rfl, hd3⟩
        have HB3 := Aside0.mk (HB2.out.trans (drawn_below hd3 _))
        clear HX2 HY2 HB2 hd3
        obtain ⟨b, hb⟩ : ∃ b, allEq intEq x.f3 y.f3 = b := ⟨_, rfl⟩
        rw [hb] at HV2 ⊢
        clear hb
        go_wp2_with fail
        go_ret
        exact ⟨by rw [HV2.out, Bool.true_and, Bool.true_and]; rfl, HB3.out⟩
  · have b1 : (x.f0.toList == y.f0.toList) = false := beq_eq_false_iff_ne.2 e
    have HV2 := Aside0.mk (hV.out.trans (if_neg e))
    clear e hV
    go_enter Tryz.func46, Tryz.ntmps46
    go_wp2_with fail
    go_ret
    exact ⟨by rw [HV2.out]; rfl, below_alloc (below_alloc (Below.refl _ _) _) _⟩
set_option maxRecDepth 100000 in
set_option maxHeartbeats 4000000 in
theorem same_e (x y : S68) (pA1 qA1 : Option Addr) (pc1 qc1 p : Nat) (W : World) (hp : W.cell? ⟨p, 0, none⟩ = some (.func (.func 50) #[] #[]))
    (r1 : k92.C W pA1 x.f1.length x.f1) (s1 : k92.C W qA1 y.f1.length y.f1) (g1 : x.f1.length ≤ pc1) (h1 : y.f1.length ≤ qc1) :
    Calls Tryz.prog 51 #[.agg #[.string x.f0, .slice pA1 x.f1.length pc1, .int .i64 x.f2], .agg #[.string y.f0, .slice qA1 y.f1.length qc1, .int .i64 y.f2], .pointer (some ⟨p, 0, none⟩)] W (SameP W (sameE x y)) := by
  have hp2 : ∀ o o2, ((W.alloc o).alloc o2).cell? ⟨p, 0, none⟩ = some (.func (.func 50) #[] #[]) := fun o o2 => pw_cell_below (below_alloc (Below.refl _ _) _) (pw_cell_below (below_alloc (Below.refl _ _) _) hp)
  have R1 := Aside0.mk r1
  have S1 := Aside0.mk s1
  clear r1 s1 hp
  have hV : Aside0 (sameE x y = if x.f0.toList = y.f0.toList then allEq sameV x.f1 y.f1 else false) := ⟨rfl⟩
  by_cases e : x.f0.toList = y.f0.toList
  · have b1 : (x.f0.toList == y.f0.toList) = true := beq_iff_eq.2 e
    have HV2 := Aside0.mk (hV.out.trans (if_pos e))
    clear e hV
    have HB0 := Aside0.mk (below_alloc (below_alloc (Below.refl W.heap.size W) (.cells #[.string x.f0, .slice pA1 x.f1.length pc1, .int .i64 x.f2] 68 (0, 0))) (.cells #[.string y.f0, .slice qA1 y.f1.length qc1, .int .i64 y.f2] 68 (0, 0)))
    go_enter Tryz.func51, Tryz.ntmps51
    go_wp2_with fail
    clear hp2
    generalize (W.alloc (.cells #[.string x.f0, .slice pA1 x.f1.length pc1, .int .i64 x.f2] 68 (0, 0))).alloc (.cells #[.string y.f0, .slice qA1 y.f1.length qc1, .int .i64 y.f2] 68 (0, 0)) = V0 at *
    go_at_call 52
    refine (eqf_V x.f1 y.f1 pA1 qA1 pc1 qc1 _ (Kd.C_below R1.out HB0.out) (Kd.C_below S1.out HB0.out) g1 h1).mono ?_
    rintro e1 W1 ⟨rfl, hB1⟩
    have HB1 := Aside0.mk (HB0.out.trans (hB1.mono HB0.out.size))
    clear HB0 hB1
    obtain ⟨b, hb⟩ : ∃ b, allEq sameV x.f1 y.f1 = b := ⟨_, rfl⟩
    rw [hb] at HV2 ⊢
    clear hb
    go_wp2_with fail
    go_ret
    exact ⟨by rw [HV2.out]; rfl, HB1.out⟩
  · have b1 : (x.f0.toList == y.f0.toList) = false := beq_eq_false_iff_ne.2 e
    have HV2 := Aside0.mk (hV.out.trans (if_neg e))
    clear e hV
    go_enter Tryz.func51, Tryz.ntmps51
    go_wp2_with fail
    go_ret
    exact ⟨by rw [HV2.out]; rfl, below_alloc (below_alloc (Below.refl _ _) _) _⟩
set_option maxRecDepth 100000 in
set_option maxHeartbeats 4000000 in
theorem eqf_M (l m : List (S34)) (A A2 : Option Addr) (c c2 : Nat) (w : World) (hC : k34.C w A l.length l) (hC2 : k34.C w A2 m.length m) (hc : l.length ≤ c) (hc2 : m.length ≤ c2) (p : Nat) (hp : w.cell? ⟨p, 0, none⟩ = some (.func (.func 45) #[] #[])) :
    Calls Tryz.prog 53 #[.slice A l.length c, .slice A2 m.length c2, .func (.func 46) #[] #[.pointer (some ⟨p, 0, none⟩)]] w (SameP w (allEq sameM l m)) := by
  have HC := Aside0.mk hC
  have HC2 := Aside0.mk hC2
  have hm1 := Kd.C_max hC
  have hm2 := Kd.C_max hC2
  clear hC hC2
  have HP := Aside0.mk hp
  clear hp
  by_cases hlen : l.length = m.length
  · have d1 : ((l.length : Int) != (m.length : Int)) = false := by rw [bne_eq_false_iff_eq]; omega
    have HLEN := Aside0.mk hlen
    clear hlen
    go_enter Tryz.func53, Tryz.ntmps53
    go_wp2
    go_loopg [17] l.length (fun n v W => ∃ i : Nat, v = .int .i64 i ∧ Aside0 (allEq sameM (l.drop i) (m.drop i) = allEq sameM l m) ∧ Aside0 (Below w.heap.size w W) ∧ Aside0 (i + n = l.length))
    case atStart => exact ⟨0, rfl, ⟨rfl⟩, ⟨Below.refl _ _⟩, ⟨by omega⟩⟩
    case round =>
      obtain ⟨i, rfl, HS, HB, HN⟩ := hrel
      by_cases hlt : i < l.length
      · have hlt2 : i < m.length := by have := HLEN.out; omega
        have HT := Aside0.mk ((allEq_step sameM l m i hlt hlt2).symm.trans HS.out)
        clear HS
        have d3 : (0 : Int) ≤ (i : Int) := by omega
        have d4 : (i : Int) < (l.length : Int) := by omega
        have d4' : (i : Int) < (m.length : Int) := by omega
        obtain ⟨pad, pA1, pc1, pA2, pc2, pA3, pc3, phad, pz0, pz1, pz2, pz3, pz4, pg1, pr1, pg2, pr2, pg3, pr3⟩ := at_T34 HC.out i d3 d4
        obtain ⟨x, hx⟩ : ∃ x, x = l[i]'hlt := ⟨_, rfl⟩
        have phrd : rd_T34 l i = x := by unfold rd_T34; rw [hx, List.getD_eq_getElem?_getD]; simp [hlt, hlt2]
        rw [phrd] at pz0 pz1 pz2 pz3 pz4 pg1 pr1 pg2 pr2 pg3 pr3
        rw [Int.toNat_natCast] at pz0 pz1 pz2 pz3 pz4
        replace pz0 := (HB.out.cell (World.block_lt_of_cell? w _ pz0)).trans pz0
        replace pz1 := (HB.out.cell (World.block_lt_of_cell? w _ pz1)).trans pz1
        replace pz2 := (HB.out.cell (World.block_lt_of_cell? w _ pz2)).trans pz2
        replace pz3 := (HB.out.cell (World.block_lt_of_cell? w _ pz3)).trans pz3
        replace pz4 := (HB.out.cell (World.block_lt_of_cell? w _ pz4)).trans pz4
        have pG1 := Aside0.mk pg1
        have pR1 := Aside0.mk pr1
        have pG2 := Aside0.mk pg2
        have pR2 := Aside0.mk pr2
        have pG3 := Aside0.mk pg3
        have pR3 := Aside0.mk pr3
        clear phrd pg1 pr1 pg2 pr2 pg3 pr3
        subst phad
        obtain ⟨qad, qA1, qc1, qA2, qc2, qA3, qc3, qhad, qz0, qz1, qz2, qz3, qz4, qg1, qr1, qg2, qr2, qg3, qr3⟩ := at_T34 HC2.out i d3 d4'
        obtain ⟨y, hy⟩ : ∃ y, y = m[i]'hlt2 := ⟨_, rfl⟩
        have qhrd : rd_T34 m i = y := by unfold rd_T34; rw [hy, List.getD_eq_getElem?_getD]; simp [hlt, hlt2]
        rw [qhrd] at qz0 qz1 qz2 qz3 qz4 qg1 qr1 qg2 qr2 qg3 qr3
        rw [Int.toNat_natCast] at qz0 qz1 qz2 qz3 qz4
        replace qz0 := (HB.out.cell (World.block_lt_of_cell? w _ qz0)).trans qz0
        replace qz1 := (HB.out.cell (World.block_lt_of_cell? w _ qz1)).trans qz1
        replace qz2 := (HB.out.cell (World.block_lt_of_cell? w _ qz2)).trans qz2
        replace qz3 := (HB.out.cell (World.block_lt_of_cell? w _ qz3)).trans qz3
        replace qz4 := (HB.out.cell (World.block_lt_of_cell? w _ qz4)).trans qz4
        have qG1 := Aside0.mk qg1
        have qR1 := Aside0.mk qr1
        have qG2 := Aside0.mk qg2
        have qR2 := Aside0.mk qr2
        have qG3 := Aside0.mk qg3
        have qR3 := Aside0.mk qr3
        clear qhrd qg1 qr1 qg2 qr2 qg3 qr3
        subst qhad
        have qz0' := pw_cell_below (below_alloc (Below.refl _ wr) (.cells #[.string x.f0, .slice pA1 x.f1.length pc1, .slice pA2 x.f2.length pc2, .slice pA3 x.f3.length pc3, .int .i64 x.f4] 34 (0, 0))) qz0
        have qz1' := pw_cell_below (below_alloc (Below.refl _ wr) (.cells #[.string x.f0, .slice pA1 x.f1.length pc1, .slice pA2 x.f2.length pc2, .slice pA3 x.f3.length pc3, .int .i64 x.f4] 34 (0, 0))) qz1
        have qz2' := pw_cell_below (below_alloc (Below.refl _ wr) (.cells #[.string x.f0, .slice pA1 x.f1.length pc1, .slice pA2 x.f2.length pc2, .slice pA3 x.f3.length pc3, .int .i64 x.f4] 34 (0, 0))) qz2
        have qz3' := pw_cell_below (below_alloc (Below.refl _ wr) (.cells #[.string x.f0, .slice pA1 x.f1.length pc1, .slice pA2 x.f2.length pc2, .slice pA3 x.f3.length pc3, .int .i64 x.f4] 34 (0, 0))) qz3
        have qz4' := pw_cell_below (below_alloc (Below.refl _ wr) (.cells #[.string x.f0, .slice pA1 x.f1.length pc1, .slice pA2 x.f2.length pc2, .slice pA3 x.f3.length pc3, .int .i64 x.f4] 34 (0, 0))) qz4
        clear qz0 qz1 qz2 qz3 qz4
        rw [← hx, ← hy] at HT
        clear hx hy
        obtain ⟨b, hb⟩ : ∃ b, sameM x y = b := ⟨_, rfl⟩
        rw [hb] at HT
        have HBX := Aside0.mk hb
        clear hb
        cases gk with
        | zero => have := HN.out; omega
        | succ k1 =>
          cases b
          · have hF : Aside0 (false = allEq sameM l m) := ⟨by rw [← HT.out, Bool.false_and]⟩
            clear HT
            go_wp2_with (go_at_call 46; refine (HBX.out ▸ same_m x y _ _ _ _ _ _ _ _ _ _ _ _ p _ (pw_cell_below (below_alloc (below_alloc HB.out _) _) HP.out) (Kd.C_below pR1.out (below_alloc (below_alloc HB.out _) _)) (Kd.C_below pR2.out (below_alloc (below_alloc HB.out _) _)) (Kd.C_below pR3.out (below_alloc (below_alloc HB.out _) _)) (Kd.C_below qR1.out (below_alloc (below_alloc HB.out _) _)) (Kd.C_below qR2.out (below_alloc (below_alloc HB.out _) _)) (Kd.C_below qR3.out (below_alloc (below_alloc HB.out _) _)) pG1.out pG2.out pG3.out qG1.out qG2.out qG3.out).mono ?_; rintro e W1 ⟨rfl, hB1⟩)
            go_ret
            exact ⟨by rw [← hF.out]; rfl, below_step (below_alloc (below_alloc HB.out _) _) hB1⟩
          · have hT : Aside0 (allEq sameM (l.drop (i + 1)) (m.drop (i + 1)) = allEq sameM l m) := ⟨by rw [← HT.out, Bool.true_and]⟩
            clear HT
            go_wp2_with (go_at_call 46; refine (HBX.out ▸ same_m x y _ _ _ _ _ _ _ _ _ _ _ _ p _ (pw_cell_below (below_alloc (below_alloc HB.out _) _) HP.out) (Kd.C_below pR1.out (below_alloc (below_alloc HB.out _) _)) (Kd.C_below pR2.out (below_alloc (below_alloc HB.out _) _)) (Kd.C_below pR3.out (below_alloc (below_alloc HB.out _) _)) (Kd.C_below qR1.out (below_alloc (below_alloc HB.out _) _)) (Kd.C_below qR2.out (below_alloc (below_alloc HB.out _) _)) (Kd.C_below qR3.out (below_alloc (below_alloc HB.out _) _)) pG1.out pG2.out pG3.out qG1.out qG2.out qG3.out).mono ?_; rintro e W1 ⟨rfl, hB1⟩)
            go_roundg k1
            case measure => omega
            case rel => exact ⟨i + 1, by go_num, hT, ⟨below_step (below_alloc (below_alloc HB.out _) _) hB1⟩, ⟨by have := HN.out; omega⟩⟩
      · have hF : Aside0 (true = allEq sameM l m) := ⟨by rw [← HS.out, List.drop_of_length_le (by omega), List.drop_of_length_le (by have := HLEN.out; omega)]; rfl⟩
        clear HS
        go_wp2
        go_ret
        exact ⟨by rw [← hF.out]; rfl, HB.out⟩
  · have d1 : ((l.length : Int) != (m.length : Int)) = true := by rw [bne_iff_ne]; omega
    have HF := Aside0.mk (allEq_len sameM l m hlen)
    clear hlen
    go_enter Tryz.func53, Tryz.ntmps53
    rw [HF.out]
    go_wp2
    go_ret
    exact ⟨rfl, Below.refl _ _⟩
set_option maxRecDepth 100000 in
set_option maxHeartbeats 4000000 in
theorem eqf_E (l m : List (S68)) (A A2 : Option Addr) (c c2 : Nat) (w : World) (hC : k68.C w A l.length l) (hC2 : k68.C w A2 m.length m) (hc : l.length ≤ c) (hc2 : m.length ≤ c2) (p : Nat) (hp : w.cell? ⟨p, 0, none⟩ = some (.func (.func 50) #[] #[])) :
    Calls Tryz.prog 54 #[.slice A l.length c, .slice A2 m.length c2, .func (.func 51) #[] #[.pointer (some ⟨p, 0, none⟩)]] w (SameP w (allEq sameE l m)) := by
  have HC := Aside0.mk hC
  have HC2 := Aside0.mk hC2
  have hm1 := Kd.C_max hC
  have hm2 := Kd.C_max hC2
  clear hC hC2
  have HP := Aside0.mk hp
  clear hp
  by_cases hlen : l.length = m.length
  · have d1 : ((l.length : Int) != (m.length : Int)) = false := by rw [bne_eq_false_iff_eq]; omega
    have HLEN := Aside0.mk hlen
    clear hlen
    go_enter Tryz.func54, Tryz.ntmps54
    go_wp2
    go_loopg [17] l.length (fun n v W => ∃ i : Nat, v = .int .i64 i ∧ Aside0 (allEq sameE (l.drop i) (m.drop i) = allEq sameE l m) ∧ Aside0 (Below w.heap.size w W) ∧ Aside0 (i + n = l.length))
    case atStart => exact ⟨0, rfl, ⟨rfl⟩, ⟨Below.refl _ _⟩, ⟨by omega⟩⟩
    case round =>
      obtain ⟨i, rfl, HS, HB, HN⟩ := hrel
      by_cases hlt : i < l.length
      · have hlt2 : i < m.length := by have := HLEN.out; omega
        have HT := Aside0.mk ((allEq_step sameE l m i hlt hlt2).symm.trans HS.out)
        clear HS
        have d3 : (0 : Int) ≤ (i : Int) := by omega
        have d4 : (i : Int) < (l.length : Int) := by omega
        have d4' : (i : Int) < (m.length : Int) := by omega
        obtain ⟨pad, pA1, pc1, phad, pz0, pz1, pz2, pg1, pr1⟩ := at_T68 HC.out i d3 d4
        obtain ⟨x, hx⟩ : ∃ x, x = l[i]'hlt := ⟨_, rfl⟩
        have phrd : rd_T68 l i = x := by unfold rd_T68; rw [hx, List.getD_eq_getElem?_getD]; simp [hlt, hlt2]
        rw [phrd] at pz0 pz1 pz2 pg1 pr1
        rw [Int.toNat_natCast] at pz0 pz1 pz2
        replace pz0 := (HB.out.cell (World.block_lt_of_cell? w _ pz0)).trans pz0
        replace pz1 := (HB.out.cell (World.block_lt_of_cell? w _ pz1)).trans pz1
        replace pz2 := (HB.out.cell (World.block_lt_of_cell? w _ pz2)).trans pz2
        have pG1 := Aside0.mk pg1
        have pR1 := Aside0.mk pr1
        clear phrd pg1 pr1
        subst phad
        obtain ⟨qad, qA1, qc1, qhad, qz0, qz1, qz2, qg1, qr1⟩ := at_T68 HC2.out i d3 d4'
        obtain ⟨y, hy⟩ : ∃ y, y = m[i]'hlt2 := ⟨_, rfl⟩
        have qhrd : rd_T68 m i = y := by unfold rd_T68; rw [hy, List.getD_eq_getElem?_getD]; simp [hlt, hlt2]
        rw [qhrd] at qz0 qz1 qz2 qg1 qr1
        rw [Int.toNat_natCast] at qz0 qz1 qz2
        replace qz0 := (HB.out.cell (World.block_lt_of_cell? w _ qz0)).trans qz0
        replace qz1 := (HB.out.cell (World.block_lt_of_cell? w _ qz1)).trans qz1
        replace qz2 := (HB.out.cell (World.block_lt_of_cell? w _ qz2)).trans qz2
        have qG1 := Aside0.mk qg1
        have qR1 := Aside0.mk qr1
        clear qhrd qg1 qr1
        subst qhad
        have qz0' := pw_cell_below (below_alloc (Below.refl _ wr) (.cells #[.string x.f0, .slice pA1 x.f1.length pc1, .int .i64 x.f2] 68 (0, 0))) qz0
        have qz1' := pw_cell_below (below_alloc (Below.refl _ wr) (.cells #[.string x.f0, .slice pA1 x.f1.length pc1, .int .i64 x.f2] 68 (0, 0))) qz1
        have qz2' := pw_cell_below (below_alloc (Below.refl _ wr) (.cells #[.string x.f0, .slice pA1 x.f1.length pc1, .int .i64 x.f2] 68 (0, 0))) qz2
        clear qz0 qz1 qz2
        rw [← hx, ← hy] at HT
        clear hx hy
        obtain ⟨b, hb⟩ : ∃ b, sameE x y = b := ⟨_, rfl⟩
        rw [hb] at HT
        have HBX := Aside0.mk hb
        clear hb
        cases gk with
        | zero => have := HN.out; omega
        | succ k1 =>
          cases b
          · have hF : Aside0 (false = allEq sameE l m) := ⟨by rw [← HT.out, Bool.false_and]⟩
            clear HT
            go_wp2_with (go_at_call 51; refine (HBX.out ▸ same_e x y _ _ _ _ p _ (pw_cell_below (below_alloc (below_alloc HB.out _) _) HP.out) (Kd.C_below pR1.out (below_alloc (below_alloc HB.out _) _)) (Kd.C_below qR1.out (below_alloc (below_alloc HB.out _) _)) pG1.out qG1.out).mono ?_; rintro e W1 ⟨rfl, hB1⟩)
            go_ret
            exact ⟨by rw [← hF.out]; rfl, below_step (below_alloc (below_alloc HB.out _) _) hB1⟩
          · have hT : Aside0 (allEq sameE (l.drop (i + 1)) (m.drop (i + 1)) = allEq sameE l m) := ⟨by rw [← HT.out, Bool.true_and]⟩
            clear HT
            go_wp2_with (go_at_call 51; refine (HBX.out ▸ same_e x y _ _ _ _ p _ (pw_cell_below (below_alloc (below_alloc HB.out _) _) HP.out) (Kd.C_below pR1.out (below_alloc (below_alloc HB.out _) _)) (Kd.C_below qR1.out (below_alloc (below_alloc HB.out _) _)) pG1.out qG1.out).mono ?_; rintro e W1 ⟨rfl, hB1⟩)
            go_roundg k1
            case measure => omega
            case rel => exact ⟨i + 1, by go_num, hT, ⟨below_step (below_alloc (below_alloc HB.out _) _) hB1⟩, ⟨by have := HN.out; omega⟩⟩
      · have hF : Aside0 (true = allEq sameE l m) := ⟨by rw [← HS.out, List.drop_of_length_le (by omega), List.drop_of_length_le (by have := HLEN.out; omega)]; rfl⟩
        clear HS
        go_wp2
        go_ret
        exact ⟨by rw [← hF.out]; rfl, HB.out⟩
  · have d1 : ((l.length : Int) != (m.length : Int)) = true := by rw [bne_iff_ne]; omega
    have HF := Aside0.mk (allEq_len sameE l m hlen)
    clear hlen
    go_enter Tryz.func54, Tryz.ntmps54
    rw [HF.out]
    go_wp2
    go_ret
    exact ⟨rfl, Below.refl _ _⟩
end Go.Proofs.YtddpjjhekhompaaGreatDoor.P
namespace Go.Proofs.YtddpjjhekhompaaGreatDoor.P
open Go.RowKit Go.Proofs.YtddpjjhekhompaaGreatDoorW.PrintWords Go.Proofs.YtddpjjhekhompaaGreatDoorW.PrintLast Go.Proofs.YtddpjjhekhompaaGreatDoorW.PrintMore
set_option linter.unusedVariables false
set_option linter.unusedSimpArgs false
def sameFile (l0 : List (S34)) (l1 : List (S68)) (m0 : List (S34)) (m1 : List (S68)) : Bool := allEq sameM l0 m0 && allEq sameE l1 m1
def proto_Same.f (l0_0 : List (S34)) (l0_1 : List (S68)) (l1_0 : List (S34)) (l1_1 : List (S68)) : Option Bool := some (sameFile l0_0 l0_1 l1_0 l1_1)
set_option maxRecDepth 100000 in
set_option maxHeartbeats 4000000 in
theorem proto_Same.calls (A0_0 : Option Addr) (c0_0 : Nat) (l0_0 : List (S34)) (A0_1 : Option Addr) (c0_1 : Nat) (l0_1 : List (S68)) (A1_0 : Option Addr) (c1_0 : Nat) (l1_0 : List (S34)) (A1_1 : Option Addr) (c1_1 : Nat) (l1_1 : List (S68)) (r : Bool) (w : World)
    (hr0_0 : Kd.C k34 w A0_0 l0_0.length l0_0) (hc0_0 : l0_0.length ≤ c0_0) (hr0_1 : Kd.C k68 w A0_1 l0_1.length l0_1) (hc0_1 : l0_1.length ≤ c0_1) (hr1_0 : Kd.C k34 w A1_0 l1_0.length l1_0) (hc1_0 : l1_0.length ≤ c1_0) (hr1_1 : Kd.C k68 w A1_1 l1_1.length l1_1) (hc1_1 : l1_1.length ≤ c1_1)
    (h : proto_Same.f l0_0 l0_1 l1_0 l1_1 = some r) :
    Calls Tryz.prog 15 #[.agg #[.slice A0_0 l0_0.length c0_0, .slice A0_1 l0_1.length c0_1], .agg #[.slice A1_0 l1_0.length c1_0, .slice A1_1 l1_1.length c1_1]] w fun e w' => e = .returned (.bool r) ∧ Below w.heap.size w w' := by
  have hst1 := fun (a : Addr) (W : World) => run_store Tryz.prog W a (.func (.func 45) #[] #[]) .plain rfl
  have hst2 := fun (a : Addr) (W : World) => run_store Tryz.prog W a (.func (.func 50) #[] #[]) .plain rfl
  have HV2 := Aside0.mk (Option.some.inj h)
  unfold sameFile at HV2
  have R0 := Aside0.mk hr0_0
  have R1 := Aside0.mk hr0_1
  have S0 := Aside0.mk hr1_0
  have S1 := Aside0.mk hr1_1
  clear hr0_0 hr0_1 hr1_0 hr1_1 h
  go_enter Tryz.func15, Tryz.ntmps15
  go_wp2_with fail
  clear hst1 hst2
  have q0 := blk_alloc (blk_alloc (blk_alloc (blk_new w (.cells #[.slice A0_0 l0_0.length c0_0, .slice A0_1 l0_1.length c0_1] 26 (0, 0))) (.cells #[.slice A1_0 l1_0.length c1_0, .slice A1_1 l1_1.length c1_1] 26 (0, 0))) (.cells #[.func (.func 45) #[] #[]] 95 (0, 0))) (.cells #[.func (.func 50) #[] #[]] 100 (0, 0))
  have q1 := blk_alloc (blk_alloc (blk_new (w.alloc (.cells #[.slice A0_0 l0_0.length c0_0, .slice A0_1 l0_1.length c0_1] 26 (0, 0))) (.cells #[.slice A1_0 l1_0.length c1_0, .slice A1_1 l1_1.length c1_1] 26 (0, 0))) (.cells #[.func (.func 45) #[] #[]] 95 (0, 0))) (.cells #[.func (.func 50) #[] #[]] 100 (0, 0))
  have q2 := blk_alloc (blk_new ((w.alloc (.cells #[.slice A0_0 l0_0.length c0_0, .slice A0_1 l0_1.length c0_1] 26 (0, 0))).alloc (.cells #[.slice A1_0 l1_0.length c1_0, .slice A1_1 l1_1.length c1_1] 26 (0, 0))) (.cells #[.func (.func 45) #[] #[]] 95 (0, 0))) (.cells #[.func (.func 50) #[] #[]] 100 (0, 0))
  have q3 := blk_new (((w.alloc (.cells #[.slice A0_0 l0_0.length c0_0, .slice A0_1 l0_1.length c0_1] 26 (0, 0))).alloc (.cells #[.slice A1_0 l1_0.length c1_0, .slice A1_1 l1_1.length c1_1] 26 (0, 0))).alloc (.cells #[.func (.func 45) #[] #[]] 95 (0, 0))) (.cells #[.func (.func 50) #[] #[]] 100 (0, 0))
  have qb := below_alloc (below_alloc (below_alloc (below_alloc (Below.refl w.heap.size w) (.cells #[.slice A0_0 l0_0.length c0_0, .slice A0_1 l0_1.length c0_1] 26 (0, 0))) (.cells #[.slice A1_0 l1_0.length c1_0, .slice A1_1 l1_1.length c1_1] 26 (0, 0))) (.cells #[.func (.func 45) #[] #[]] 95 (0, 0))) (.cells #[.func (.func 50) #[] #[]] 100 (0, 0))
  simp only [World.size_alloc] at q1 q2 q3
  generalize (((w.alloc (.cells #[.slice A0_0 l0_0.length c0_0, .slice A0_1 l0_1.length c0_1] 26 (0, 0))).alloc (.cells #[.slice A1_0 l1_0.length c1_0, .slice A1_1 l1_1.length c1_1] 26 (0, 0))).alloc (.cells #[.func (.func 45) #[] #[]] 95 (0, 0))).alloc (.cells #[.func (.func 50) #[] #[]] 100 (0, 0)) = V0 at *
  have HB0 := Aside0.mk qb
  have HX0 := Aside0.mk q0
  have HY0 := Aside0.mk q1
  have HF0 := Aside0.mk q2
  have HG0 := Aside0.mk q3
  clear q0 q1 q2 q3 qb
  go_at_call 53
  refine (eqf_M l0_0 l1_0 A0_0 A1_0 c0_0 c1_0 V0 (Kd.C_below R0.out HB0.out) (Kd.C_below S0.out HB0.out) hc0_0 hc1_0 (w.heap.size + 1 + 1) ((blk_cell HF0.out 0).trans rfl)).mono ?_
  rintro e1 W1 ⟨rfl, hB1⟩
  have HX1 := Aside0.mk (blk_below HX0.out hB1)
  have HY1 := Aside0.mk (blk_below HY0.out hB1)
  have HG1 := Aside0.mk (blk_below HG0.out hB1)
  have HB1 := Aside0.mk (HB0.out.trans (hB1.mono HB0.out.size))
  clear HX0 HY0 HF0 HG0 HB0 hB1
  obtain ⟨b, hb⟩ : ∃ b, allEq sameM l0_0 l1_0 = b := ⟨_, rfl⟩
  rw [hb] at HV2 ⊢
  clear hb
  cases b
  · go_wp2_with fail
    go_ret
    exact ⟨by rw [← HV2.out, Bool.false_and]; rfl, HB1.out⟩
  · have x1 : W1.cell? ⟨w.heap.size, 1, none⟩ = some (.slice A0_1 l0_1.length c0_1) := (blk_cell HX1.out 1).trans rfl
    have y1 : W1.cell? ⟨w.heap.size + 1, 1, none⟩ = some (.slice A1_1 l1_1.length c1_1) := (blk_cell HY1.out 1).trans rfl
    go_wp2_with fail
    clear x1 y1
    go_at_call 54
    refine (eqf_E l0_1 l1_1 A0_1 A1_1 c0_1 c1_1 _ (Kd.C_below R1.out HB1.out) (Kd.C_below S1.out HB1.out) hc0_1 hc1_1 (w.heap.size + 1 + 1 + 1) ((blk_cell HG1.out 0).trans rfl)).mono ?_
    rintro e2 W2 ⟨rfl, hB2⟩
    have HB2 := Aside0.mk (HB1.out.trans (hB2.mono HB1.out.size))
    clear HX1 HY1 HG1 HB1 hB2
    obtain ⟨b, hb⟩ : ∃ b, allEq sameE l0_1 l1_1 = b := ⟨_, rfl⟩
    rw [hb] at HV2 ⊢
    clear hb
    go_wp2_with fail
    go_ret
    exact ⟨by rw [← HV2.out, Bool.true_and]; rfl, HB2.out⟩
end Go.Proofs.YtddpjjhekhompaaGreatDoor.P
