/- Part 5 of what the law ProtoBack leans on: contracts of the functions that it reaches, and plain lemmas; printed walks and words (by the kit's print, through wip/mp.py) and the session's own texts, one behind the other, what is not used left out (wip/prune.py). -/
import Derived.Lib.ItoaMem
import Derived.Lib.Join
import Derived.Lib.ItoaLen
import Derived.Test.YtddpjjhekhompaaGreatDoorMProtoBack1
import Derived.Test.YtddpjjhekhompaaGreatDoorMProtoBack2
import Derived.Test.YtddpjjhekhompaaGreatDoorMProtoBack3
import Derived.Test.YtddpjjhekhompaaGreatDoorMProtoBack4
namespace Go.Proofs.YtddpjjhekhompaaGreatDoor.P
open Go.RowKit Go.Proofs.YtddpjjhekhompaaGreatDoorW.PrintWords Go.Proofs.YtddpjjhekhompaaGreatDoorW.PrintLast Go.Proofs.YtddpjjhekhompaaGreatDoorW.PrintMore
set_option linter.unusedVariables false
set_option linter.unusedSimpArgs false
theorem eqA36 (d : Nat) (w : World) (x0 y0 : ByteArray) (x1 y1 : ByteArray) (x2 y2 : Bool) (x3 y3 : Int) (x4 y4 : ByteArray) (x5 y5 : Int) (x6 y6 : Int) :
    (Op.equalIn (d + 2) 36 (.agg #[.string x0, .string x1, .bool x2, .int .i64 x3, .string x4, .int .i64 x5, .int .i64 x6]) (.agg #[.string y0, .string y1, .bool y2, .int .i64 y3, .string y4, .int .i64 y5, .int .i64 y6])).run Tryz.prog w = .ok (x0.toList == y0.toList && (x1.toList == y1.toList && (x2 == y2 && (x3 == y3 && (x4.toList == y4.toList && (x5 == y5 && (x6 == y6))))))) w := by
  refine eqA_of Tryz.underlying36 (by kernel_rfl) ?_
  refine eqf_cons (by rfl) (by go_simp; rfl) (by go_simp; rfl) (by go_simp) ?_
  refine eqf_cons (by rfl) (by go_simp; rfl) (by go_simp; rfl) (by go_simp) ?_
  refine eqf_cons (by rfl) (by go_simp; rfl) (by go_simp; rfl) (by go_simp) ?_
  refine eqf_cons (by rfl) (by go_simp; rfl) (by go_simp; rfl) (by go_simp) ?_
  refine eqf_cons (by rfl) (by go_simp; rfl) (by go_simp; rfl) (by go_simp) ?_
  refine eqf_cons (by rfl) (by go_simp; rfl) (by go_simp; rfl) (by go_simp) ?_
  exact eqf_last (by rfl) (by go_simp; rfl) (by go_simp; rfl) (by go_simp)
end Go.Proofs.YtddpjjhekhompaaGreatDoor.P
namespace Go.Proofs.YtddpjjhekhompaaGreatDoor.P
open Go.RowKit Go.Proofs.YtddpjjhekhompaaGreatDoorW.PrintWords Go.Proofs.YtddpjjhekhompaaGreatDoorW.PrintLast Go.Proofs.YtddpjjhekhompaaGreatDoorW.PrintMore
set_option linter.unusedVariables false
set_option linter.unusedSimpArgs false
attribute [local go_sem high] eqA36
def proto_Same_1.f (a0_0 : ByteArray) (a0_1 : ByteArray) (a0_2 : Bool) (a0_3 : Int) (a0_4 : ByteArray) (a0_5 : Int) (a0_6 : Int) (a1_0 : ByteArray) (a1_1 : ByteArray) (a1_2 : Bool) (a1_3 : Int) (a1_4 : ByteArray) (a1_5 : Int) (a1_6 : Int) : Option (Bool) := some (a0_0.toList == a1_0.toList && (a0_1.toList == a1_1.toList && (a0_2 == a1_2 && (a0_3 == a1_3 && (a0_4.toList == a1_4.toList && (a0_5 == a1_5))))))
set_option maxHeartbeats 8000000 in
set_option maxRecDepth 100000 in
theorem proto_Same_1.calls (a0_0 : ByteArray) (a0_1 : ByteArray) (a0_2 : Bool) (a0_3 : Int) (a0_4 : ByteArray) (a0_5 : Int) (a0_6 : Int) (a1_0 : ByteArray) (a1_1 : ByteArray) (a1_2 : Bool) (a1_3 : Int) (a1_4 : ByteArray) (a1_5 : Int) (a1_6 : Int) (r : Bool) (w : World) (h : proto_Same_1.f a0_0 a0_1 a0_2 a0_3 a0_4 a0_5 a0_6 a1_0 a1_1 a1_2 a1_3 a1_4 a1_5 a1_6 = some r) :
    Calls Tryz.prog 45 #[.agg #[.string a0_0, .string a0_1, .bool a0_2, .int .i64 a0_3, .string a0_4, .int .i64 a0_5, .int .i64 a0_6], .agg #[.string a1_0, .string a1_1, .bool a1_2, .int .i64 a1_3, .string a1_4, .int .i64 a1_5, .int .i64 a1_6]] w fun e w' => e = .returned (.bool r) ∧ Below w.heap.size w w' := by
  have hu36 := Tryz.underlying36
  have HB := Aside0.mk (Below.refl w.heap.size w)
  have H : (some (a0_0.toList == a1_0.toList && (a0_1.toList == a1_1.toList && (a0_2 == a1_2 && (a0_3 == a1_3 && (a0_4.toList == a1_4.toList && (a0_5 == a1_5))))))) = some r := h
  clear h
  obtain rfl := Option.some.inj H
  go_enter Tryz.func45, Tryz.ntmps45
  go_wp2_with (first | ((with_reducible refine gate_dst (N := 2) rfl ?_); refine box_event ?hg (N := 2) ?hd (cs := #[.string a0_0, .string a0_1, .bool a0_2, .int .i64 a0_3, .string a0_4, .int .i64 a0_5, .int .i64 a0_6]) (t := 36) ?hr ?_; (case hd => rfl); (case hg => rfl); (case hr => first | (go_simp; done) | (go_simp; rfl)); intro gb153 hg w3 hbox hb; have n0_ := Aside0.mk (below_step (by repeat (first | (with_reducible first | exact HB.out | apply below_alloc | apply pw_below_drewN | apply below_drew1) | exact HB.out)) hb); have n1_ := Aside0.mk (hbox); have n2_ := Aside0.mk ((by rw [hg]; exact (below_size (by repeat (first | (with_reducible first | exact HB.out | apply below_alloc | apply pw_below_drewN | apply below_drew1) | exact HB.out))) : w.heap.size ≤ gb153)); have n3_ := Aside0.mk ((by rw [hg]; exact (below_size (by repeat (first | (with_reducible first | exact HB.out | apply below_alloc | apply pw_below_drewN | apply below_drew1) | exact HB.out))) : w.heap.size ≤ gb153)); clear HB; have HB := n0_; have BK153 := n1_; have GW153 := n2_; have GE153 := n3_; clear n0_ n1_ n2_ n3_; clear hb hbox hg) | ((with_reducible refine gate_dst (N := 3) rfl ?_); refine box_event ?hg (N := 3) ?hd (cs := #[.string a1_0, .string a1_1, .bool a1_2, .int .i64 a1_3, .string a1_4, .int .i64 a1_5, .int .i64 a1_6]) (t := 36) ?hr ?_; (case hd => rfl); (case hg => rfl); (case hr => first | (go_simp; done) | (go_simp; rfl)); intro gb154 hg w4 hbox hb; have n0_ := Aside0.mk (blk_below (g := gb153) (o := .cells #[.string a0_0, .string a0_1, .bool a0_2, .int .i64 a0_3, .string a0_4, .int .i64 a0_5, .int .i64 a0_6] 36 (0, 0)) (by (with_reducible repeat (first | refine blk_drewN ?_ _ | refine blk_drew ?_ | refine blk_alloc ?_ _)); exact BK153.out) hb); have n1_ := Aside0.mk (below_step (by repeat (first | (with_reducible first | exact HB.out | apply below_alloc | apply pw_below_drewN | apply below_drew1 | refine below_set ?_ GE153.out) | exact HB.out)) hb); have n2_ := Aside0.mk (hbox); have n3_ := Aside0.mk ((by rw [hg]; exact (below_size (by repeat (first | (with_reducible first | exact HB.out | apply below_alloc | apply pw_below_drewN | apply below_drew1 | refine below_set ?_ GE153.out) | exact HB.out))) : w.heap.size ≤ gb154)); have n4_ := Aside0.mk ((by rw [hg]; exact (below_size (by repeat (first | (with_reducible first | exact HB.out | apply below_alloc | apply pw_below_drewN | apply below_drew1 | refine below_set ?_ GE153.out) | exact HB.out))) : w.heap.size ≤ gb154)); have n5_ := Aside0.mk ((by rw [hg]; exact Nat.ne_of_lt (blk_lt (g := gb153) (o := .cells #[.string a0_0, .string a0_1, .bool a0_2, .int .i64 a0_3, .string a0_4, .int .i64 a0_5, .int .i64 a0_6] 36 (0, 0)) (by (with_reducible repeat (first | refine blk_drewN ?_ _ | refine blk_drew ?_ | refine blk_alloc ?_ _)); exact BK153.out)) : gb153 ≠ gb154)); have n6_ := Aside0.mk ((by rw [hg]; exact Nat.ne_of_gt (blk_lt (g := gb153) (o := .cells #[.string a0_0, .string a0_1, .bool a0_2, .int .i64 a0_3, .string a0_4, .int .i64 a0_5, .int .i64 a0_6] 36 (0, 0)) (by (with_reducible repeat (first | refine blk_drewN ?_ _ | refine blk_drew ?_ | refine blk_alloc ?_ _)); exact BK153.out)) : gb154 ≠ gb153)); clear BK153; clear HB; have BK153 := n0_; have HB := n1_; have BK154 := n2_; have GW154 := n3_; have GE154 := n4_; have NB153_154 := n5_; have NB154_153 := n6_; clear n0_ n1_ n2_ n3_ n4_ n5_ n6_; clear hb hbox hg; have hnb5 := NB154_153.out; have hnc5 := NB153_154.out; have hcz6_0 : w4.cell? ⟨gb154, 0, none⟩ = some (.string a1_0) := (blk_cell BK154.out 0).trans rfl; have hcz6_1 : w4.cell? ⟨gb154, 1, none⟩ = some (.string a1_1) := (blk_cell BK154.out 1).trans rfl; have hcz6_2 : w4.cell? ⟨gb154, 2, none⟩ = some (.bool a1_2) := (blk_cell BK154.out 2).trans rfl; have hcz6_3 : w4.cell? ⟨gb154, 3, none⟩ = some (.int .i64 a1_3) := (blk_cell BK154.out 3).trans rfl; have hcz6_4 : w4.cell? ⟨gb154, 4, none⟩ = some (.string a1_4) := (blk_cell BK154.out 4).trans rfl; have hcz6_5 : w4.cell? ⟨gb154, 5, none⟩ = some (.int .i64 a1_5) := (blk_cell BK154.out 5).trans rfl; have hcz6_6 : w4.cell? ⟨gb154, 6, none⟩ = some (.int .i64 a1_6) := (blk_cell BK154.out 6).trans rfl; have hfz6_0 := blk_frozen BK154.out 0; have hfz6_1 := blk_frozen BK154.out 1; have hfz6_2 := blk_frozen BK154.out 2; have hfz6_3 := blk_frozen BK154.out 3; have hfz6_4 := blk_frozen BK154.out 4; have hfz6_5 := blk_frozen BK154.out 5; have hfz6_6 := blk_frozen BK154.out 6; have hcz7_0 : w4.cell? ⟨gb153, 0, none⟩ = some (.string a0_0) := (blk_cell BK153.out 0).trans rfl; have hcz7_1 : w4.cell? ⟨gb153, 1, none⟩ = some (.string a0_1) := (blk_cell BK153.out 1).trans rfl; have hcz7_2 : w4.cell? ⟨gb153, 2, none⟩ = some (.bool a0_2) := (blk_cell BK153.out 2).trans rfl; have hcz7_3 : w4.cell? ⟨gb153, 3, none⟩ = some (.int .i64 a0_3) := (blk_cell BK153.out 3).trans rfl; have hcz7_4 : w4.cell? ⟨gb153, 4, none⟩ = some (.string a0_4) := (blk_cell BK153.out 4).trans rfl; have hcz7_5 : w4.cell? ⟨gb153, 5, none⟩ = some (.int .i64 a0_5) := (blk_cell BK153.out 5).trans rfl; have hcz7_6 : w4.cell? ⟨gb153, 6, none⟩ = some (.int .i64 a0_6) := (blk_cell BK153.out 6).trans rfl; have hfz7_0 := blk_frozen BK153.out 0; have hfz7_1 := blk_frozen BK153.out 1; have hfz7_2 := blk_frozen BK153.out 2; have hfz7_3 := blk_frozen BK153.out 3; have hfz7_4 := blk_frozen BK153.out 4; have hfz7_5 := blk_frozen BK153.out 5; have hfz7_6 := blk_frozen BK153.out 6))
  go_ret
  exact ⟨by first | rfl | (simp [] <;> rfl) | (simp [*] <;> rfl), by repeat (first | (with_reducible first | exact HB.out | apply below_alloc | apply pw_below_drewN | apply below_drew1 | refine below_set ?_ GE153.out | refine below_set ?_ GE154.out) | exact HB.out)⟩
end Go.Proofs.YtddpjjhekhompaaGreatDoor.P
namespace Go.Proofs.YtddpjjhekhompaaGreatDoor.P
open Go.RowKit Go.Proofs.YtddpjjhekhompaaGreatDoorW.PrintWords Go.Proofs.YtddpjjhekhompaaGreatDoorW.PrintLast Go.Proofs.YtddpjjhekhompaaGreatDoorW.PrintMore
set_option linter.unusedVariables false
set_option linter.unusedSimpArgs false
def proto_Same_3.f (a0_0 : ByteArray) (a0_1 : Int) (a0_2 : Int) (a1_0 : ByteArray) (a1_1 : Int) (a1_2 : Int) : Option (Bool) := if a0_0.toList = a1_0.toList then (some (a0_1 == a1_1)) else (some false)
set_option maxHeartbeats 8000000 in
set_option maxRecDepth 100000 in
theorem proto_Same_3.calls (a0_0 : ByteArray) (a0_1 : Int) (a0_2 : Int) (a1_0 : ByteArray) (a1_1 : Int) (a1_2 : Int) (r : Bool) (w : World) (h : proto_Same_3.f a0_0 a0_1 a0_2 a1_0 a1_1 a1_2 = some r) :
    Calls Tryz.prog 50 #[.agg #[.string a0_0, .int .i64 a0_1, .int .i64 a0_2], .agg #[.string a1_0, .int .i64 a1_1, .int .i64 a1_2]] w fun e w' => e = .returned (.bool r) ∧ Below w.heap.size w w' := by
  have hu92 := Tryz.underlying92
  have HB := Aside0.mk (Below.refl w.heap.size w)
  have H : (if a0_0.toList = a1_0.toList then (some (a0_1 == a1_1)) else (some false)) = some r := h
  clear h
  by_cases c3 : a0_0.toList = a1_0.toList
  · rw [if_pos c3] at H
    have c3b0 : (a0_0.toList == a1_0.toList) = true := beq_iff_eq.mpr c3
    have c3b1 : (a0_0.toList != a1_0.toList) = false := bne_eq_false_iff_eq.mpr c3
    clear c3
    obtain rfl := Option.some.inj H
    go_enter Tryz.func50, Tryz.ntmps50
    go_wp2_with (first | ((with_reducible refine gate_dst (N := 2) rfl ?_); refine box_event ?hg (N := 2) ?hd (cs := #[.string a0_0, .int .i64 a0_1, .int .i64 a0_2]) (t := 92) ?hr ?_; (case hd => rfl); (case hg => rfl); (case hr => first | (go_simp; done) | (go_simp; rfl)); intro gb159 hg w4 hbox hb; have n0_ := Aside0.mk (below_step (by repeat (first | (with_reducible first | exact HB.out | apply below_alloc | apply pw_below_drewN | apply below_drew1) | exact HB.out)) hb); have n1_ := Aside0.mk (hbox); have n2_ := Aside0.mk ((by rw [hg]; exact (below_size (by repeat (first | (with_reducible first | exact HB.out | apply below_alloc | apply pw_below_drewN | apply below_drew1) | exact HB.out))) : w.heap.size ≤ gb159)); have n3_ := Aside0.mk ((by rw [hg]; exact (below_size (by repeat (first | (with_reducible first | exact HB.out | apply below_alloc | apply pw_below_drewN | apply below_drew1) | exact HB.out))) : w.heap.size ≤ gb159)); clear HB; have HB := n0_; have BK159 := n1_; have GW159 := n2_; have GE159 := n3_; clear n0_ n1_ n2_ n3_; clear hb hbox hg) | ((with_reducible refine gate_dst (N := 3) rfl ?_); refine box_event ?hg (N := 3) ?hd (cs := #[.string a1_0, .int .i64 a1_1, .int .i64 a1_2]) (t := 92) ?hr ?_; (case hd => rfl); (case hg => rfl); (case hr => first | (go_simp; done) | (go_simp; rfl)); intro gb160 hg w5 hbox hb; have n0_ := Aside0.mk (blk_below (g := gb159) (o := .cells #[.string a0_0, .int .i64 a0_1, .int .i64 a0_2] 92 (0, 0)) (by (with_reducible repeat (first | refine blk_drewN ?_ _ | refine blk_drew ?_ | refine blk_alloc ?_ _)); exact BK159.out) hb); have n1_ := Aside0.mk (below_step (by repeat (first | (with_reducible first | exact HB.out | apply below_alloc | apply pw_below_drewN | apply below_drew1 | refine below_set ?_ GE159.out) | exact HB.out)) hb); have n2_ := Aside0.mk (hbox); have n3_ := Aside0.mk ((by rw [hg]; exact (below_size (by repeat (first | (with_reducible first | exact HB.out | apply below_alloc | apply pw_below_drewN | apply below_drew1 | refine below_set ?_ GE159.out) | exact HB.out))) : w.heap.size ≤ gb160)); have n4_ := Aside0.mk ((by rw [hg]; exact (below_size (by repeat (first | (with_reducible first | exact HB.out | apply below_alloc | apply pw_below_drewN | apply below_drew1 | refine below_set ?_ GE159.out) | exact HB.out))) : w.heap.size ≤ gb160)); have n5_ := Aside0.mk ((by rw [hg]; exact Nat.ne_of_lt (blk_lt (g := gb159) (o := .cells #[.string a0_0, .int .i64 a0_1, .int .i64 a0_2] 92 (0, 0)) (by (with_reducible repeat (first | refine blk_drewN ?_ _ | refine blk_drew ?_ | refine blk_alloc ?_ _)); exact BK159.out)) : gb159 ≠ gb160)); have n6_ := Aside0.mk ((by rw [hg]; exact Nat.ne_of_gt (blk_lt (g := gb159) (o := .cells #[.string a0_0, .int .i64 a0_1, .int .i64 a0_2] 92 (0, 0)) (by (with_reducible repeat (first | refine blk_drewN ?_ _ | refine blk_drew ?_ | refine blk_alloc ?_ _)); exact BK159.out)) : gb160 ≠ gb159)); clear BK159; clear HB; have BK159 := n0_; have HB := n1_; have BK160 := n2_; have GW160 := n3_; have GE160 := n4_; have NB159_160 := n5_; have NB160_159 := n6_; clear n0_ n1_ n2_ n3_ n4_ n5_ n6_; clear hb hbox hg; have hnb6 := NB159_160.out; have hnc6 := NB160_159.out; have hcz7_0 : w5.cell? ⟨gb159, 0, none⟩ = some (.string a0_0) := (blk_cell BK159.out 0).trans rfl; have hcz7_1 : w5.cell? ⟨gb159, 1, none⟩ = some (.int .i64 a0_1) := (blk_cell BK159.out 1).trans rfl; have hcz7_2 : w5.cell? ⟨gb159, 2, none⟩ = some (.int .i64 a0_2) := (blk_cell BK159.out 2).trans rfl; have hfz7_0 := blk_frozen BK159.out 0; have hfz7_1 := blk_frozen BK159.out 1; have hfz7_2 := blk_frozen BK159.out 2; have hcz8_0 : w5.cell? ⟨gb160, 0, none⟩ = some (.string a1_0) := (blk_cell BK160.out 0).trans rfl; have hcz8_1 : w5.cell? ⟨gb160, 1, none⟩ = some (.int .i64 a1_1) := (blk_cell BK160.out 1).trans rfl; have hcz8_2 : w5.cell? ⟨gb160, 2, none⟩ = some (.int .i64 a1_2) := (blk_cell BK160.out 2).trans rfl; have hfz8_0 := blk_frozen BK160.out 0; have hfz8_1 := blk_frozen BK160.out 1; have hfz8_2 := blk_frozen BK160.out 2))
    go_ret
    exact ⟨by first | rfl | (simp [] <;> rfl) | (simp [*] <;> rfl), by repeat (first | (with_reducible first | exact HB.out | apply below_alloc | apply pw_below_drewN | apply below_drew1 | refine below_set ?_ GE159.out | refine below_set ?_ GE160.out) | exact HB.out)⟩
  · rw [if_neg c3] at H
    have c3b0 : (a0_0.toList == a1_0.toList) = false := beq_eq_false_iff_ne.mpr c3
    have c3b1 : (a0_0.toList != a1_0.toList) = true := bne_iff_ne.mpr c3
    obtain rfl := Option.some.inj H
    go_enter Tryz.func50, Tryz.ntmps50
    go_wp2_with (first | ((with_reducible refine gate_dst (N := 2) rfl ?_); refine box_event ?hg (N := 2) ?hd (cs := #[.string a0_0, .int .i64 a0_1, .int .i64 a0_2]) (t := 92) ?hr ?_; (case hd => rfl); (case hg => rfl); (case hr => first | (go_simp; done) | (go_simp; rfl)); intro gb159 hg w9 hbox hb; have n0_ := Aside0.mk (below_step (by repeat (first | (with_reducible first | exact HB.out | apply below_alloc | apply pw_below_drewN | apply below_drew1) | exact HB.out)) hb); have n1_ := Aside0.mk (hbox); have n2_ := Aside0.mk ((by rw [hg]; exact (below_size (by repeat (first | (with_reducible first | exact HB.out | apply below_alloc | apply pw_below_drewN | apply below_drew1) | exact HB.out))) : w.heap.size ≤ gb159)); have n3_ := Aside0.mk ((by rw [hg]; exact (below_size (by repeat (first | (with_reducible first | exact HB.out | apply below_alloc | apply pw_below_drewN | apply below_drew1) | exact HB.out))) : w.heap.size ≤ gb159)); clear HB; have HB := n0_; have BK159 := n1_; have GW159 := n2_; have GE159 := n3_; clear n0_ n1_ n2_ n3_; clear hb hbox hg) | ((with_reducible refine gate_dst (N := 3) rfl ?_); refine box_event ?hg (N := 3) ?hd (cs := #[.string a1_0, .int .i64 a1_1, .int .i64 a1_2]) (t := 92) ?hr ?_; (case hd => rfl); (case hg => rfl); (case hr => first | (go_simp; done) | (go_simp; rfl)); intro gb160 hg w10 hbox hb; have n0_ := Aside0.mk (blk_below (g := gb159) (o := .cells #[.string a0_0, .int .i64 a0_1, .int .i64 a0_2] 92 (0, 0)) (by (with_reducible repeat (first | refine blk_drewN ?_ _ | refine blk_drew ?_ | refine blk_alloc ?_ _)); exact BK159.out) hb); have n1_ := Aside0.mk (below_step (by repeat (first | (with_reducible first | exact HB.out | apply below_alloc | apply pw_below_drewN | apply below_drew1 | refine below_set ?_ GE159.out) | exact HB.out)) hb); have n2_ := Aside0.mk (hbox); have n3_ := Aside0.mk ((by rw [hg]; exact (below_size (by repeat (first | (with_reducible first | exact HB.out | apply below_alloc | apply pw_below_drewN | apply below_drew1 | refine below_set ?_ GE159.out) | exact HB.out))) : w.heap.size ≤ gb160)); have n4_ := Aside0.mk ((by rw [hg]; exact (below_size (by repeat (first | (with_reducible first | exact HB.out | apply below_alloc | apply pw_below_drewN | apply below_drew1 | refine below_set ?_ GE159.out) | exact HB.out))) : w.heap.size ≤ gb160)); have n5_ := Aside0.mk ((by rw [hg]; exact Nat.ne_of_lt (blk_lt (g := gb159) (o := .cells #[.string a0_0, .int .i64 a0_1, .int .i64 a0_2] 92 (0, 0)) (by (with_reducible repeat (first | refine blk_drewN ?_ _ | refine blk_drew ?_ | refine blk_alloc ?_ _)); exact BK159.out)) : gb159 ≠ gb160)); have n6_ := Aside0.mk ((by rw [hg]; exact Nat.ne_of_gt (blk_lt (g := gb159) (o := .cells #[.string a0_0, .int .i64 a0_1, .int .i64 a0_2] 92 (0, 0)) (by (with_reducible repeat (first | refine blk_drewN ?_ _ | refine blk_drew ?_ | refine blk_alloc ?_ _)); exact BK159.out)) : gb160 ≠ gb159)); clear BK159; clear HB; have BK159 := n0_; have HB := n1_; have BK160 := n2_; have GW160 := n3_; have GE160 := n4_; have NB159_160 := n5_; have NB160_159 := n6_; clear n0_ n1_ n2_ n3_ n4_ n5_ n6_; clear hb hbox hg; have hnb11 := NB159_160.out; have hnc11 := NB160_159.out; have hcz12_0 : w10.cell? ⟨gb159, 0, none⟩ = some (.string a0_0) := (blk_cell BK159.out 0).trans rfl; have hcz12_1 : w10.cell? ⟨gb159, 1, none⟩ = some (.int .i64 a0_1) := (blk_cell BK159.out 1).trans rfl; have hcz12_2 : w10.cell? ⟨gb159, 2, none⟩ = some (.int .i64 a0_2) := (blk_cell BK159.out 2).trans rfl; have hfz12_0 := blk_frozen BK159.out 0; have hfz12_1 := blk_frozen BK159.out 1; have hfz12_2 := blk_frozen BK159.out 2; have hcz13_0 : w10.cell? ⟨gb160, 0, none⟩ = some (.string a1_0) := (blk_cell BK160.out 0).trans rfl; have hcz13_1 : w10.cell? ⟨gb160, 1, none⟩ = some (.int .i64 a1_1) := (blk_cell BK160.out 1).trans rfl; have hcz13_2 : w10.cell? ⟨gb160, 2, none⟩ = some (.int .i64 a1_2) := (blk_cell BK160.out 2).trans rfl; have hfz13_0 := blk_frozen BK160.out 0; have hfz13_1 := blk_frozen BK160.out 1; have hfz13_2 := blk_frozen BK160.out 2))
    go_ret
    exact ⟨by first | rfl | (simp [] <;> rfl) | (simp [*] <;> rfl), by repeat (first | (with_reducible first | exact HB.out | apply below_alloc | apply pw_below_drewN | apply below_drew1 | refine below_set ?_ GE159.out | refine below_set ?_ GE160.out) | exact HB.out)⟩
end Go.Proofs.YtddpjjhekhompaaGreatDoor.P
namespace Go.Proofs.YtddpjjhekhompaaGreatDoor.P
open Go.RowKit Go.Proofs.YtddpjjhekhompaaGreatDoorW.PrintWords Go.Proofs.YtddpjjhekhompaaGreatDoorW.PrintLast Go.Proofs.YtddpjjhekhompaaGreatDoorW.PrintMore
set_option linter.unusedVariables false
set_option linter.unusedSimpArgs false
def SameP (w : World) (b : Bool) (e : Ending) (w' : World) : Prop := e = .returned (.bool b) ∧ Below w.heap.size w w'
def allEq {α β : Type} (g : α → β → Bool) : List α → List β → Bool
  | [], [] => true
  | x :: r, y :: s => g x y && allEq g r s
  | [], _ :: _ => false
  | _ :: _, [] => false
theorem allEq_len {α β : Type} (g : α → β → Bool) (l : List α) : ∀ m : List β, l.length ≠ m.length → allEq g l m = false := by
  induction l with
  | nil => intro m h; cases m with
    | nil => exact absurd rfl h
    | cons => rfl
  | cons x r ih => intro m h; cases m with
    | nil => rfl
    | cons y s => rw [allEq, ih s (by simpa using h), Bool.and_false]
theorem allEq_step {α β : Type} (g : α → β → Bool) (l : List α) (m : List β) (k : Nat) (hk : k < l.length) (hm : k < m.length) : allEq g (l.drop k) (m.drop k) = (g l[k] m[k] && allEq g (l.drop (k + 1)) (m.drop (k + 1))) := by
  rw [List.drop_eq_getElem_cons hk, List.drop_eq_getElem_cons hm, allEq]
def sameF (x y : S36) : Bool := (x.f0.toList == y.f0.toList && (x.f1.toList == y.f1.toList && (x.f2 == y.f2 && (x.f3 == y.f3 && (x.f4.toList == y.f4.toList && (x.f5 == y.f5))))))
def sameV (x y : S92) : Bool := if x.f0.toList = y.f0.toList then x.f1 == y.f1 else false
theorem same_f (x y : S36) (b : Bool) (hb : sameF x y = b) (W : World) : Calls Tryz.prog 45 #[.agg #[.string x.f0, .string x.f1, .bool x.f2, .int .i64 x.f3, .string x.f4, .int .i64 x.f5, .int .i64 x.f6], .agg #[.string y.f0, .string y.f1, .bool y.f2, .int .i64 y.f3, .string y.f4, .int .i64 y.f5, .int .i64 y.f6]] W (SameP W b) :=
  proto_Same_1.calls _ _ _ _ _ _ _ _ _ _ _ _ _ _ b W (by unfold proto_Same_1.f; rw [← hb]; rfl)
theorem same_v (x y : S92) (b : Bool) (hb : sameV x y = b) (W : World) : Calls Tryz.prog 50 #[.agg #[.string x.f0, .int .i64 x.f1, .int .i64 x.f2], .agg #[.string y.f0, .int .i64 y.f1, .int .i64 y.f2]] W (SameP W b) :=
  proto_Same_3.calls _ _ _ _ _ _ b W (by unfold proto_Same_3.f; unfold sameV at hb; rw [← hb]; split <;> rfl)
set_option maxRecDepth 100000 in
set_option maxHeartbeats 4000000 in
theorem eqf_F (l m : List (S36)) (A A2 : Option Addr) (c c2 : Nat) (w : World) (hC : k36.C w A l.length l) (hC2 : k36.C w A2 m.length m) (hc : l.length ≤ c) (hc2 : m.length ≤ c2) :
    Calls Tryz.prog 47 #[.slice A l.length c, .slice A2 m.length c2, .func (.func 45) #[] #[]] w (SameP w (allEq sameF l m)) := by
  have HC := Aside0.mk hC
  have HC2 := Aside0.mk hC2
  have hm1 := Kd.C_max hC
  have hm2 := Kd.C_max hC2
  clear hC hC2
  by_cases hlen : l.length = m.length
  · have d1 : ((l.length : Int) != (m.length : Int)) = false := by rw [bne_eq_false_iff_eq]; omega
    have HLEN := Aside0.mk hlen
    clear hlen
    go_enter Tryz.func47, Tryz.ntmps47
    go_wp2
    go_loopg [17] l.length (fun n v W => ∃ i : Nat, v = .int .i64 i ∧ Aside0 (allEq sameF (l.drop i) (m.drop i) = allEq sameF l m) ∧ Aside0 (Below w.heap.size w W) ∧ Aside0 (i + n = l.length))
    case atStart => exact ⟨0, rfl, ⟨rfl⟩, ⟨Below.refl _ _⟩, ⟨by omega⟩⟩
    case round =>
      obtain ⟨i, rfl, HS, HB, HN⟩ := hrel
      by_cases hlt : i < l.length
      · have hlt2 : i < m.length := by have := HLEN.out; omega
        have HT := Aside0.mk ((allEq_step sameF l m i hlt hlt2).symm.trans HS.out)
        clear HS
        have d3 : (0 : Int) ≤ (i : Int) := by omega
        have d4 : (i : Int) < (l.length : Int) := by omega
        have d4' : (i : Int) < (m.length : Int) := by omega
        obtain ⟨pad, phad, pz0, pz1, pz2, pz3, pz4, pz5, pz6⟩ := at_T36 HC.out i d3 d4
        obtain ⟨x, hx⟩ : ∃ x, x = l[i]'hlt := ⟨_, rfl⟩
        have phrd : rd_T36 l i = x := by unfold rd_T36; rw [hx, List.getD_eq_getElem?_getD]; simp [hlt, hlt2]
        rw [phrd] at pz0 pz1 pz2 pz3 pz4 pz5 pz6
        rw [Int.toNat_natCast] at pz0 pz1 pz2 pz3 pz4 pz5 pz6
        replace pz0 := (HB.out.cell (World.block_lt_of_cell? w _ pz0)).trans pz0
        replace pz1 := (HB.out.cell (World.block_lt_of_cell? w _ pz1)).trans pz1
        replace pz2 := (HB.out.cell (World.block_lt_of_cell? w _ pz2)).trans pz2
        replace pz3 := (HB.out.cell (World.block_lt_of_cell? w _ pz3)).trans pz3
        replace pz4 := (HB.out.cell (World.block_lt_of_cell? w _ pz4)).trans pz4
        replace pz5 := (HB.out.cell (World.block_lt_of_cell? w _ pz5)).trans pz5
        replace pz6 := (HB.out.cell (World.block_lt_of_cell? w _ pz6)).trans pz6
        clear phrd
        subst phad
        obtain ⟨qad, qhad, qz0, qz1, qz2, qz3, qz4, qz5, qz6⟩ := at_T36 HC2.out i d3 d4'
        obtain ⟨y, hy⟩ : ∃ y, y = m[i]'hlt2 := ⟨_, rfl⟩
        have qhrd : rd_T36 m i = y := by unfold rd_T36; rw [hy, List.getD_eq_getElem?_getD]; simp [hlt, hlt2]
        rw [qhrd] at qz0 qz1 qz2 qz3 qz4 qz5 qz6
        rw [Int.toNat_natCast] at qz0 qz1 qz2 qz3 qz4 qz5 qz6
        replace qz0 := (HB.out.cell (World.block_lt_of_cell? w _ qz0)).trans qz0
        replace qz1 := (HB.out.cell (World.block_lt_of_cell? w _ qz1)).trans qz1
        replace qz2 := (HB.out.cell (World.block_lt_of_cell? w _ qz2)).trans qz2
        replace qz3 := (HB.out.cell (World.block_lt_of_cell? w _ qz3)).trans qz3
        replace qz4 := (HB.out.cell (World.block_lt_of_cell? w _ qz4)).trans qz4
        replace qz5 := (HB.out.cell (World.block_lt_of_cell? w _ qz5)).trans qz5
        replace qz6 := (HB.out.cell (World.block_lt_of_cell? w _ qz6)).trans qz6
        clear qhrd
        subst qhad
        have qz0' := pw_cell_below (below_alloc (Below.refl _ wr) (.cells #[.string x.f0, .string x.f1, .bool x.f2, .int .i64 x.f3, .string x.f4, .int .i64 x.f5, .int .i64 x.f6] 36 (0, 0))) qz0
        have qz1' := pw_cell_below (below_alloc (Below.refl _ wr) (.cells #[.string x.f0, .string x.f1, .bool x.f2, .int .i64 x.f3, .string x.f4, .int .i64 x.f5, .int .i64 x.f6] 36 (0, 0))) qz1
        have qz2' := pw_cell_below (below_alloc (Below.refl _ wr) (.cells #[.string x.f0, .string x.f1, .bool x.f2, .int .i64 x.f3, .string x.f4, .int .i64 x.f5, .int .i64 x.f6] 36 (0, 0))) qz2
        have qz3' := pw_cell_below (below_alloc (Below.refl _ wr) (.cells #[.string x.f0, .string x.f1, .bool x.f2, .int .i64 x.f3, .string x.f4, .int .i64 x.f5, .int .i64 x.f6] 36 (0, 0))) qz3
        have qz4' := pw_cell_below (below_alloc (Below.refl _ wr) (.cells #[.string x.f0, .string x.f1, .bool x.f2, .int .i64 x.f3, .string x.f4, .int .i64 x.f5, .int .i64 x.f6] 36 (0, 0))) qz4
        have qz5' := pw_cell_below (below_alloc (Below.refl _ wr) (.cells #[.string x.f0, .string x.f1, .bool x.f2, .int .i64 x.f3, .string x.f4, .int .i64 x.f5, .int .i64 x.f6] 36 (0, 0))) qz5
        have qz6' := pw_cell_below (below_alloc (Below.refl _ wr) (.cells #[.string x.f0, .string x.f1, .bool x.f2, .int .i64 x.f3, .string x.f4, .int .i64 x.f5, .int .i64 x.f6] 36 (0, 0))) qz6
        clear qz0 qz1 qz2 qz3 qz4 qz5 qz6
        rw [← hx, ← hy] at HT
        clear hx hy
        obtain ⟨b, hb⟩ : ∃ b, sameF x y = b := ⟨_, rfl⟩
        rw [hb] at HT
        have HBX := Aside0.mk hb
        clear hb
        cases gk with
        | zero => have := HN.out; omega
        | succ k1 =>
          cases b
          · have hF : Aside0 (false = allEq sameF l m) := ⟨by rw [← HT.out, Bool.false_and]⟩
            clear HT
            go_wp2_with (go_at_call 45; refine (same_f x y _ HBX.out _).mono ?_; rintro e W1 ⟨rfl, hB1⟩)
            go_ret
            exact ⟨by rw [← hF.out]; rfl, below_step (below_alloc (below_alloc HB.out _) _) hB1⟩
          · have hT : Aside0 (allEq sameF (l.drop (i + 1)) (m.drop (i + 1)) = allEq sameF l m) := ⟨by rw [← HT.out, Bool.true_and]⟩
            clear HT
            go_wp2_with (go_at_call 45; refine (same_f x y _ HBX.out _).mono ?_; rintro e W1 ⟨rfl, hB1⟩)
            go_roundg k1
            case measure => omega
            case rel => exact ⟨i + 1, by go_num, hT, ⟨below_step (below_alloc (below_alloc HB.out _) _) hB1⟩, ⟨by have := HN.out; omega⟩⟩
      · have hF : Aside0 (true = allEq sameF l m) := ⟨by rw [← HS.out, List.drop_of_length_le (by omega), List.drop_of_length_le (by have := HLEN.out; omega)]; rfl⟩
        clear HS
        go_wp2
        go_ret
        exact ⟨by rw [← hF.out]; rfl, HB.out⟩
  · have d1 : ((l.length : Int) != (m.length : Int)) = true := by rw [bne_iff_ne]; omega
    have HF := Aside0.mk (allEq_len sameF l m hlen)
    clear hlen
    go_enter Tryz.func47, Tryz.ntmps47
    rw [HF.out]
    go_wp2
    go_ret
    exact ⟨rfl, Below.refl _ _⟩
set_option maxRecDepth 100000 in
set_option maxHeartbeats 4000000 in
theorem eqf_V (l m : List (S92)) (A A2 : Option Addr) (c c2 : Nat) (w : World) (hC : k92.C w A l.length l) (hC2 : k92.C w A2 m.length m) (hc : l.length ≤ c) (hc2 : m.length ≤ c2) :
    Calls Tryz.prog 52 #[.slice A l.length c, .slice A2 m.length c2, .func (.func 50) #[] #[]] w (SameP w (allEq sameV l m)) := by
  have HC := Aside0.mk hC
  have HC2 := Aside0.mk hC2
  have hm1 := Kd.C_max hC
  have hm2 := Kd.C_max hC2
  clear hC hC2
  by_cases hlen : l.length = m.length
  · have d1 : ((l.length : Int) != (m.length : Int)) = false := by rw [bne_eq_false_iff_eq]; omega
    have HLEN := Aside0.mk hlen
    clear hlen
    go_enter Tryz.func52, Tryz.ntmps52
    go_wp2
    go_loopg [17] l.length (fun n v W => ∃ i : Nat, v = .int .i64 i ∧ Aside0 (allEq sameV (l.drop i) (m.drop i) = allEq sameV l m) ∧ Aside0 (Below w.heap.size w W) ∧ Aside0 (i + n = l.length))
    case atStart => exact ⟨0, rfl, ⟨rfl⟩, ⟨Below.refl _ _⟩, ⟨by omega⟩⟩
    case round =>
      obtain ⟨i, rfl, HS, HB, HN⟩ := hrel
      by_cases hlt : i < l.length
      · have hlt2 : i < m.length := by have := HLEN.out; omega
        have HT := Aside0.mk ((allEq_step sameV l m i hlt hlt2).symm.trans HS.out)
        clear HS
        have d3 : (0 : Int) ≤ (i : Int) := by omega
        have d4 : (i : Int) < (l.length : Int) := by omega
        have d4' : (i : Int) < (m.length : Int) := by omega
        obtain ⟨pad, phad, pz0, pz1, pz2⟩ := at_T92 HC.out i d3 d4
        obtain ⟨x, hx⟩ : ∃ x, x = l[i]'hlt := ⟨_, rfl⟩
        have phrd : rd_T92 l i = x := by unfold rd_T92; rw [hx, List.getD_eq_getElem?_getD]; simp [hlt, hlt2]
        rw [phrd] at pz0 pz1 pz2
        rw [Int.toNat_natCast] at pz0 pz1 pz2
        replace pz0 := (HB.out.cell (World.block_lt_of_cell? w _ pz0)).trans pz0
        replace pz1 := (HB.out.cell (World.block_lt_of_cell? w _ pz1)).trans pz1
        replace pz2 := (HB.out.cell (World.block_lt_of_cell? w _ pz2)).trans pz2
        clear phrd
        subst phad
        obtain ⟨qad, qhad, qz0, qz1, qz2⟩ := at_T92 HC2.out i d3 d4'
        obtain ⟨y, hy⟩ : ∃ y, y = m[i]'hlt2 := ⟨_, rfl⟩
        have qhrd : rd_T92 m i = y := by unfold rd_T92; rw [hy, List.getD_eq_getElem?_getD]; simp [hlt, hlt2]
        rw [qhrd] at qz0 qz1 qz2
        rw [Int.toNat_natCast] at qz0 qz1 qz2
        replace qz0 := (HB.out.cell (World.block_lt_of_cell? w _ qz0)).trans qz0
        replace qz1 := (HB.out.cell (World.block_lt_of_cell? w _ qz1)).trans qz1
        replace qz2 := (HB.out.cell (World.block_lt_of_cell? w _ qz2)).trans qz2
        clear qhrd
        subst qhad
        have qz0' := pw_cell_below (below_alloc (Below.refl _ wr) (.cells #[.string x.f0, .int .i64 x.f1, .int .i64 x.f2] 92 (0, 0))) qz0
        have qz1' := pw_cell_below (below_alloc (Below.refl _ wr) (.cells #[.string x.f0, .int .i64 x.f1, .int .i64 x.f2] 92 (0, 0))) qz1
        have qz2' := pw_cell_below (below_alloc (Below.refl _ wr) (.cells #[.string x.f0, .int .i64 x.f1, .int .i64 x.f2] 92 (0, 0))) qz2
        clear qz0 qz1 qz2
        rw [← hx, ← hy] at HT
        clear hx hy
        obtain ⟨b, hb⟩ : ∃ b, sameV x y = b := ⟨_, rfl⟩
        rw [hb] at HT
        have HBX := Aside0.mk hb
        clear hb
        cases gk with
        | zero => have := HN.out; omega
        | succ k1 =>
          cases b
          · have hF : Aside0 (false = allEq sameV l m) := ⟨by rw [← HT.out, Bool.false_and]⟩
            clear HT
            go_wp2_with (go_at_call 50; refine (same_v x y _ HBX.out _).mono ?_; rintro e W1 ⟨rfl, hB1⟩)
            go_ret
            exact ⟨by rw [← hF.out]; rfl, below_step (below_alloc (below_alloc HB.out _) _) hB1⟩
          · have hT : Aside0 (allEq sameV (l.drop (i + 1)) (m.drop (i + 1)) = allEq sameV l m) := ⟨by rw [← HT.out, Bool.true_and]⟩
            clear HT
            go_wp2_with (go_at_call 50; refine (same_v x y _ HBX.out _).mono ?_; rintro e W1 ⟨rfl, hB1⟩)
            go_roundg k1
            case measure => omega
            case rel => exact ⟨i + 1, by go_num, hT, ⟨below_step (below_alloc (below_alloc HB.out _) _) hB1⟩, ⟨by have := HN.out; omega⟩⟩
      · have hF : Aside0 (true = allEq sameV l m) := ⟨by rw [← HS.out, List.drop_of_length_le (by omega), List.drop_of_length_le (by have := HLEN.out; omega)]; rfl⟩
        clear HS
        go_wp2
        go_ret
        exact ⟨by rw [← hF.out]; rfl, HB.out⟩
  · have d1 : ((l.length : Int) != (m.length : Int)) = true := by rw [bne_iff_ne]; omega
    have HF := Aside0.mk (allEq_len sameV l m hlen)
    clear hlen
    go_enter Tryz.func52, Tryz.ntmps52
    rw [HF.out]
    go_wp2
    go_ret
    exact ⟨rfl, Below.refl _ _⟩
end Go.Proofs.YtddpjjhekhompaaGreatDoor.P
namespace Go.Proofs.YtddpjjhekhompaaGreatDoor.P
open Go.RowKit Go.Proofs.YtddpjjhekhompaaGreatDoorW.PrintWords Go.Proofs.YtddpjjhekhompaaGreatDoorW.PrintLast Go.Proofs.YtddpjjhekhompaaGreatDoorW.PrintMore
set_option linter.unusedVariables false
set_option linter.unusedSimpArgs false
def strEq (a b : ByteArray) : Bool := a.toList == b.toList
def intEq (a b : Int) : Bool := a == b
theorem equal_s (l m : List ByteArray) (h : l.length = m.length) (hb : l.length ≤ 9223372036854775807) : ∀ n i : Nat, i + n = l.length → slices_Equal_string_string.l0 (n + 1) l m (l.length : Int) (i : Int) = some (allEq strEq (l.drop i) (m.drop i))
  | 0, i, hi => by
    unfold slices_Equal_string_string.l0
    rw [if_neg (by omega), List.drop_of_length_le (by omega), List.drop_of_length_le (by omega)]
    rfl
  | n + 1, i, hi => by
    have h1 : i < l.length := by omega
    have h2 : i < m.length := by omega
    have r1 : rdOf ByteArray.empty l (i : Int) = l[i] := by unfold rdOf; simp [h1]
    have r2 : rdOf ByteArray.empty m (i : Int) = m[i] := by unfold rdOf; simp [h2]
    have hw : wrap64 ((i : Int) + 1) = ((i + 1 : Nat) : Int) := by unfold wrap64; omega
    unfold slices_Equal_string_string.l0
    rw [if_pos (by omega), if_pos (by omega), if_pos (by omega), if_pos (by omega), r1, r2, hw, equal_s l m h hb n (i + 1) (by omega), allEq_step strEq l m i h1 h2]
    unfold strEq
    by_cases e : l[i].toList = m[i].toList
    · rw [if_pos e, e]; simp
    · rw [if_neg e]
      have : (l[i].toList == m[i].toList) = false := beq_eq_false_iff_ne.2 e
      rw [this, Bool.false_and]
theorem equal_S (l m : List ByteArray) (hb : l.length ≤ 9223372036854775807) : slices_Equal_string_string.f (l.length + 1) l m = some (allEq strEq l m) := by
  unfold slices_Equal_string_string.f
  by_cases h : l.length = m.length
  · rw [if_pos (by omega)]
    exact equal_s l m h hb l.length 0 (by omega)
  · rw [if_neg (by omega), allEq_len strEq l m h]
theorem equal_i (l m : List Int) (h : l.length = m.length) (hb : l.length ≤ 9223372036854775807) : ∀ n i : Nat, i + n = l.length → slices_Equal_int64_int64.l0 (n + 1) l m (l.length : Int) (i : Int) = some (allEq intEq (l.drop i) (m.drop i))
  | 0, i, hi => by
    unfold slices_Equal_int64_int64.l0
    rw [if_neg (by omega), List.drop_of_length_le (by omega), List.drop_of_length_le (by omega)]
    rfl
  | n + 1, i, hi => by
    have h1 : i < l.length := by omega
    have h2 : i < m.length := by omega
    have r1 : rd l (i : Int) = l[i] := by unfold rd; simp [h1]
    have r2 : rd m (i : Int) = m[i] := by unfold rd; simp [h2]
    have hw : wrap64 ((i : Int) + 1) = ((i + 1 : Nat) : Int) := by unfold wrap64; omega
    unfold slices_Equal_int64_int64.l0
    rw [if_pos (by omega), if_pos (by omega), if_pos (by omega), if_pos (by omega), r1, r2, hw, equal_i l m h hb n (i + 1) (by omega), allEq_step intEq l m i h1 h2]
    unfold intEq
    by_cases e : l[i] = m[i]
    · rw [if_pos e, e]; simp
    · rw [if_neg e]
      have : (l[i] == m[i]) = false := beq_eq_false_iff_ne.2 e
      rw [this, Bool.false_and]
theorem equal_I (l m : List Int) (hb : l.length ≤ 9223372036854775807) : slices_Equal_int64_int64.f (l.length + 1) l m = some (allEq intEq l m) := by
  unfold slices_Equal_int64_int64.f
  by_cases h : l.length = m.length
  · rw [if_pos (by omega)]
    exact equal_i l m h hb l.length 0 (by omega)
  · rw [if_neg (by omega), allEq_len intEq l m h]
def sameM (x y : S34) : Bool := if x.f0.toList = y.f0.toList then (allEq sameF x.f1 y.f1 && (allEq strEq x.f2 y.f2 && allEq intEq x.f3 y.f3)) else false
def sameE (x y : S68) : Bool := if x.f0.toList = y.f0.toList then allEq sameV x.f1 y.f1 else false
set_option maxRecDepth 100000 in
set_option maxHeartbeats 4000000 in
theorem same_m (x y : S34) (pA1 pA2 pA3 qA1 qA2 qA3 : Option Addr) (pc1 pc2 pc3 qc1 qc2 qc3 p : Nat) (W : World) (hp : W.cell? ⟨p, 0, none⟩ = some (.func (.func 45) #[] #[]))
    (r1 : k36.C W pA1 x.f1.length x.f1) (r2 : Kd.string.C W pA2 x.f2.length x.f2) (r3 : (Kd.int .i64).C W pA3 x.f3.length x.f3) (s1 : k36.C W qA1 y.f1.length y.f1) (s2 : Kd.string.C W qA2 y.f2.length y.f2) (s3 : (Kd.int .i64).C W qA3 y.f3.length y.f3)
    (g1 : x.f1.length ≤ pc1) (g2 : x.f2.length ≤ pc2) (g3 : x.f3.length ≤ pc3) (h1 : y.f1.length ≤ qc1) (h2 : y.f2.length ≤ qc2) (h3 : y.f3.length ≤ qc3) :
    Calls Tryz.prog 46 #[.agg #[.string x.f0, .slice pA1 x.f1.length pc1, .slice pA2 x.f2.length pc2, .slice pA3 x.f3.length pc3, .int .i64 x.f4], .agg #[.string y.f0, .slice qA1 y.f1.length qc1, .slice qA2 y.f2.length qc2, .slice qA3 y.f3.length qc3, .int .i64 y.f4], .pointer (some ⟨p, 0, none⟩)] W (SameP W (sameM x y)) := by
  have hp2 : ∀ o o2, ((W.alloc o).alloc o2).cell? ⟨p, 0, none⟩ = some (.func (.func 45) #[] #[]) := fun o o2 => pw_cell_below (below_alloc (Below.refl _ _) _) (pw_cell_below (below_alloc (Below.refl _ _) _) hp)
  have R1 := Aside0.mk r1
  have R2 := Aside0.mk r2
  have R3 := Aside0.mk r3
  have S1 := Aside0.mk s1
  have S2 := Aside0.mk s2
  have S3 := Aside0.mk s3
  clear r1 r2 r3 s1 s2 s3 hp
  have hV : Aside0 (sameM x y = if x.f0.toList = y.f0.toList then (allEq sameF x.f1 y.f1 && (allEq strEq x.f2 y.f2 && allEq intEq x.f3 y.f3)) else false) := ⟨rfl⟩
  by_cases e : x.f0.toList = y.f0.toList
  · have b1 : (x.f0.toList == y.f0.toList) = true := beq_iff_eq.2 e
    have HV2 := Aside0.mk (hV.out.trans (if_pos e))
    clear e hV
    have hx0 := blk_alloc (blk_new W (.cells #[.string x.f0, .slice pA1 x.f1.length pc1, .slice pA2 x.f2.length pc2, .slice pA3 x.f3.length pc3, .int .i64 x.f4] 34 (0, 0))) (.cells #[.string y.f0, .slice qA1 y.f1.length qc1, .slice qA2 y.f2.length qc2, .slice qA3 y.f3.length qc3, .int .i64 y.f4] 34 (0, 0))
    have hy0 := blk_new (W.alloc (.cells #[.string x.f0, .slice pA1 x.f1.length pc1, .slice pA2 x.f2.length pc2, .slice pA3 x.f3.length pc3, .int .i64 x.f4] 34 (0, 0))) (.cells #[.string y.f0, .slice qA1 y.f1.length qc1, .slice qA2 y.f2.length qc2, .slice qA3 y.f3.length qc3, .int .i64 y.f4] 34 (0, 0))
    rw [World.size_alloc] at hy0
    have HB0 := Aside0.mk (below_alloc (below_alloc (Below.refl W.heap.size W) (.cells #[.string x.f0, .slice pA1 x.f1.length pc1, .slice pA2 x.f2.length pc2, .slice pA3 x.f3.length pc3, .int .i64 x.f4] 34 (0, 0))) (.cells #[.string y.f0, .slice qA1 y.f1.length qc1, .slice qA2 y.f2.length qc2, .slice qA3 y.f3.length qc3, .int .i64 y.f4] 34 (0, 0)))
    have HX0 := Aside0.mk hx0
    have HY0 := Aside0.mk hy0
    clear hx0 hy0
    go_enter Tryz.func46, Tryz.ntmps46
    go_wp2_with fail
    clear hp2
    generalize (W.alloc (.cells #[.string x.f0, .slice pA1 x.f1.length pc1, .slice pA2 x.f2.length pc2, .slice pA3 x.f3.length pc3, .int .i64 x.f4] 34 (0, 0))).alloc (.cells #[.string y.f0, .slice qA1 y.f1.length qc1, .slice qA2 y.f2.length qc2, .slice qA3 y.f3.length qc3, .int .i64 y.f4] 34 (0, 0)) = V0 at *
    go_at_call 47
    refine (eqf_F x.f1 y.f1 pA1 qA1 pc1 qc1 _ (Kd.C_below R1.out HB0.out) (Kd.C_below S1.out HB0.out) g1 h1).mono ?_
    rintro e1 W1 ⟨rfl, hB1⟩
    have HX1 := Aside0.mk (blk_below HX0.out hB1)
    have HY1 := Aside0.mk (blk_below HY0.out hB1)
    have HB1 := Aside0.mk (HB0.out.trans (hB1.mono HB0.out.size))
    clear HX0 HY0 HB0 hB1
    obtain ⟨b, hb⟩ : ∃ b, allEq sameF x.f1 y.f1 = b := ⟨_, rfl⟩
    rw [hb] at HV2 ⊢
    clear hb
    cases b
    · go_wp2_with fail
      go_ret
      exact ⟨by rw [HV2.out, Bool.false_and]; rfl, HB1.out⟩
    · have x2 : W1.cell? ⟨W.heap.size, 2, none⟩ = some (.slice pA2 x.f2.length pc2) := (blk_cell HX1.out 2).trans rfl
      have y2 : W1.cell? ⟨W.heap.size + 1, 2, none⟩ = some (.slice qA2 y.f2.length qc2) := (blk_cell HY1.out 2).trans rfl
      go_wp2_with fail
      clear x2 y2
      go_at_call 48
      refine (slices_Equal_string_string.calls _ pA2 pc2 x.f2 qA2 qc2 y.f2 _ _ (Kd.C_below R2.out HB1.out) g2 (Kd.C_below S2.out HB1.out) h2 (equal_S _ _ (Kd.C_max R2.out))).mono ?_
      rintro e2 W2 ⟨rfl, hd2⟩
      have HX2 := Aside0.mk (blk_below HX1.out hd2.below)
      have HY2 := Aside0.mk (blk_below HY1.out hd2.below)
      have HB2 := Aside0.mk (HB1.out.trans (drawn_below hd2 _))
      clear HX1 HY1 HB1 hd2
      obtain ⟨b, hb⟩ : ∃ b, allEq strEq x.f2 y.f2 = b := ⟨_, rfl⟩
      rw [hb] at HV2 ⊢
      clear hb
      cases b
      · go_wp2_with fail
        go_ret
        exact ⟨by rw [HV2.out, Bool.true_and, Bool.false_and]; rfl, HB2.out⟩
      · have x3 : W2.cell? ⟨W.heap.size, 3, none⟩ = some (.slice pA3 x.f3.length pc3) := (blk_cell HX2.out 3).trans rfl
        have y3 : W2.cell? ⟨W.heap.size + 1, 3, none⟩ = some (.slice qA3 y.f3.length qc3) := (blk_cell HY2.out 3).trans rfl
        go_wp2_with fail
        clear x3 y3
        go_at_call 49
        refine (slices_Equal_int64_int64.calls _ pA3 pc3 x.f3 qA3 qc3 y.f3 _ _ (Kd.C_below R3.out HB2.out) g3 (Kd.C_below S3.out HB2.out) h3 (equal_I _ _ (Kd.C_max R3.out))).mono ?_
        rintro e3 W3 ⟨rfl, hd3⟩
        have HB3 := Aside0.mk (HB2.out.trans (drawn_below hd3 _))
        clear HX2 HY2 HB2 hd3
        obtain ⟨b, hb⟩ : ∃ b, allEq intEq x.f3 y.f3 = b := ⟨_, rfl⟩
        rw [hb] at HV2 ⊢
        clear hb
        go_wp2_with fail
        go_ret
        exact ⟨by rw [HV2.out, Bool.true_and, Bool.true_and]; rfl, HB3.out⟩
  · have b1 : (x.f0.toList == y.f0.toList) = false := beq_eq_false_iff_ne.2 e
    have HV2 := Aside0.mk (hV.out.trans (if_neg e))
    clear e hV
    go_enter Tryz.func46, Tryz.ntmps46
    go_wp2_with fail
    go_ret
    exact ⟨by rw [HV2.out]; rfl, below_alloc (below_alloc (Below.refl _ _) _) _⟩
set_option maxRecDepth 100000 in
set_option maxHeartbeats 4000000 in
theorem same_e (x y : S68) (pA1 qA1 : Option Addr) (pc1 qc1 p : Nat) (W : World) (hp : W.cell? ⟨p, 0, none⟩ = some (.func (.func 50) #[] #[]))
    (r1 : k92.C W pA1 x.f1.length x.f1) (s1 : k92.C W qA1 y.f1.length y.f1) (g1 : x.f1.length ≤ pc1) (h1 : y.f1.length ≤ qc1) :
    Calls Tryz.prog 51 #[.agg #[.string x.f0, .slice pA1 x.f1.length pc1, .int .i64 x.f2], .agg #[.string y.f0, .slice qA1 y.f1.length qc1, .int .i64 y.f2], .pointer (some ⟨p, 0, none⟩)] W (SameP W (sameE x y)) := by
  have hp2 : ∀ o o2, ((W.alloc o).alloc o2).cell? ⟨p, 0, none⟩ = some (.func (.func 50) #[] #[]) := fun o o2 => pw_cell_below (below_alloc (Below.refl _ _) _) (pw_cell_below (below_alloc (Below.refl _ _) _) hp)
  have R1 := Aside0.mk r1
  have S1 := Aside0.mk s1
  clear r1 s1 hp
  have hV : Aside0 (sameE x y = if x.f0.toList = y.f0.toList then allEq sameV x.f1 y.f1 else false) := ⟨rfl⟩
  by_cases e : x.f0.toList = y.f0.toList
  · have b1 : (x.f0.toList == y.f0.toList) = true := beq_iff_eq.2 e
    have HV2 := Aside0.mk (hV.out.trans (if_pos e))
    clear e hV
    have HB0 := Aside0.mk (below_alloc (below_alloc (Below.refl W.heap.size W) (.cells #[.string x.f0, .slice pA1 x.f1.length pc1, .int .i64 x.f2] 68 (0, 0))) (.cells #[.string y.f0, .slice qA1 y.f1.length qc1, .int .i64 y.f2] 68 (0, 0)))
    go_enter Tryz.func51, Tryz.ntmps51
    go_wp2_with fail
    clear hp2
    generalize (W.alloc (.cells #[.string x.f0, .slice pA1 x.f1.length pc1, .int .i64 x.f2] 68 (0, 0))).alloc (.cells #[.string y.f0, .slice qA1 y.f1.length qc1, .int .i64 y.f2] 68 (0, 0)) = V0 at *
    go_at_call 52
    refine (eqf_V x.f1 y.f1 pA1 qA1 pc1 qc1 _ (Kd.C_below R1.out HB0.out) (Kd.C_below S1.out HB0.out) g1 h1).mono ?_
    rintro e1 W1 ⟨rfl, hB1⟩
    have HB1 := Aside0.mk (HB0.out.trans (hB1.mono HB0.out.size))
    clear HB0 hB1
    obtain ⟨b, hb⟩ : ∃ b, allEq sameV x.f1 y.f1 = b := ⟨_, rfl⟩
    rw [hb] at HV2 ⊢
    clear hb
    go_wp2_with fail
    go_ret
    exact ⟨by rw [HV2.out]; rfl, HB1.out⟩
  · have b1 : (x.f0.toList == y.f0.toList) = false := beq_eq_false_iff_ne.2 e
    have HV2 := Aside0.mk (hV.out.trans (if_neg e))
    clear e hV
    go_enter Tryz.func51, Tryz.ntmps51
    go_wp2_with fail
    go_ret
    exact ⟨by rw [HV2.out]; rfl, below_alloc (below_alloc (Below.refl _ _) _) _⟩
set_option maxRecDepth 100000 in
set_option maxHeartbeats 4000000 in
theorem eqf_M (l m : List (S34)) (A A2 : Option Addr) (c c2 : Nat) (w : World) (hC : k34.C w A l.length l) (hC2 : k34.C w A2 m.length m) (hc : l.length ≤ c) (hc2 : m.length ≤ c2) (p : Nat) (hp : w.cell? ⟨p, 0, none⟩ = some (.func (.func 45) #[] #[])) :
    Calls Tryz.prog 53 #[.slice A l.length c, .slice A2 m.length c2, .func (.func 46) #[] #[.pointer (some ⟨p, 0, none⟩)]] w (SameP w (allEq sameM l m)) := by
  have HC := Aside0.mk hC
  have HC2 := Aside0.mk hC2
  have hm1 := Kd.C_max hC
  have hm2 := Kd.C_max hC2
  clear hC hC2
  have HP := Aside0.mk hp
  clear hp
  by_cases hlen : l.length = m.length
  · have d1 : ((l.length : Int) != (m.length : Int)) = false := by rw [bne_eq_false_iff_eq]; omega
    have HLEN := Aside0.mk hlen
    clear hlen
    go_enter Tryz.func53, Tryz.ntmps53
    go_wp2
    go_loopg [17] l.length (fun n v W => ∃ i : Nat, v = .int .i64 i ∧ Aside0 (allEq sameM (l.drop i) (m.drop i) = allEq sameM l m) ∧ Aside0 (Below w.heap.size w W) ∧ Aside0 (i + n = l.length))
    case atStart => exact ⟨0, rfl, ⟨rfl⟩, ⟨Below.refl _ _⟩, ⟨by omega⟩⟩
    case round =>
      obtain ⟨i, rfl, HS, HB, HN⟩ := hrel
      by_cases hlt : i < l.length
      · have hlt2 : i < m.length := by have := HLEN.out; omega
        have HT := Aside0.mk ((allEq_step sameM l m i hlt hlt2).symm.trans HS.out)
        clear HS
        have d3 : (0 : Int) ≤ (i : Int) := by omega
        have d4 : (i : Int) < (l.length : Int) := by omega
        have d4' : (i : Int) < (m.length : Int) := by omega
        obtain ⟨pad, pA1, pc1, pA2, pc2, pA3, pc3, phad, pz0, pz1, pz2, pz3, pz4, pg1, pr1, pg2, pr2, pg3, pr3⟩ := at_T34 HC.out i d3 d4
        obtain ⟨x, hx⟩ : ∃ x, x = l[i]'hlt := ⟨_, rfl⟩
        have phrd : rd_T34 l i = x := by unfold rd_T34; rw [hx, List.getD_eq_getElem?_getD]; simp [hlt, hlt2]
        rw [phrd] at pz0 pz1 pz2 pz3 pz4 pg1 pr1 pg2 pr2 pg3 pr3
        rw [Int.toNat_natCast] at pz0 pz1 pz2 pz3 pz4
        replace pz0 := (HB.out.cell (World.block_lt_of_cell? w _ pz0)).trans pz0
        replace pz1 := (HB.out.cell (World.block_lt_of_cell? w _ pz1)).trans pz1
        replace pz2 := (HB.out.cell (World.block_lt_of_cell? w _ pz2)).trans pz2
        replace pz3 := (HB.out.cell (World.block_lt_of_cell? w _ pz3)).trans pz3
        replace pz4 := (HB.out.cell (World.block_lt_of_cell? w _ pz4)).trans pz4
        have pG1 := Aside0.mk pg1
        have pR1 := Aside0.mk pr1
        have pG2 := Aside0.mk pg2
        have pR2 := Aside0.mk pr2
        have pG3 := Aside0.mk pg3
        have pR3 := Aside0.mk pr3
        clear phrd pg1 pr1 pg2 pr2 pg3 pr3
        subst phad
        obtain ⟨qad, qA1, qc1, qA2, qc2, qA3, qc3, qhad, qz0, qz1, qz2, qz3, qz4, qg1, qr1, qg2, qr2, qg3, qr3⟩ := at_T34 HC2.out i d3 d4'
        obtain ⟨y, hy⟩ : ∃ y, y = m[i]'hlt2 := ⟨_, rfl⟩
        have qhrd : rd_T34 m i = y := by unfold rd_T34; rw [hy, List.getD_eq_getElem?_getD]; simp [hlt, hlt2]
        rw [qhrd] at qz0 qz1 qz2 qz3 qz4 qg1 qr1 qg2 qr2 qg3 qr3
        rw [Int.toNat_natCast] at qz0 qz1 qz2 qz3 qz4
        replace qz0 := (HB.out.cell (World.block_lt_of_cell? w _ qz0)).trans qz0
        replace qz1 := (HB.out.cell (World.block_lt_of_cell? w _ qz1)).trans qz1
        replace qz2 := (HB.out.cell (World.block_lt_of_cell? w _ qz2)).trans qz2
        replace qz3 := (HB.out.cell (World.block_lt_of_cell? w _ qz3)).trans qz3
        replace qz4 := (HB.out.cell (World.block_lt_of_cell? w _ qz4)).trans qz4
        have qG1 := Aside0.mk qg1
        have qR1 := Aside0.mk qr1
        have qG2 := Aside0.mk qg2
        have qR2 := Aside0.mk qr2
        have qG3 := Aside0.mk qg3
        have qR3 := Aside0.mk qr3
        clear qhrd qg1 qr1 qg2 qr2 qg3 qr3
        subst qhad
        have qz0' := pw_cell_below (below_alloc (Below.refl _ wr) (.cells #[.string x.f0, .slice pA1 x.f1.length pc1, .slice pA2 x.f2.length pc2, .slice pA3 x.f3.length pc3, .int .i64 x.f4] 34 (0, 0))) qz0
        have qz1' := pw_cell_below (below_alloc (Below.refl _ wr) (.cells #[.string x.f0, .slice pA1 x.f1.length pc1, .slice pA2 x.f2.length pc2, .slice pA3 x.f3.length pc3, .int .i64 x.f4] 34 (0, 0))) qz1
        have qz2' := pw_cell_below (below_alloc (Below.refl _ wr) (.cells #[.string x.f0, .slice pA1 x.f1.length pc1, .slice pA2 x.f2.length pc2, .slice pA3 x.f3.length pc3, .int .i64 x.f4] 34 (0, 0))) qz2
        have qz3' := pw_cell_below (below_alloc (Below.refl _ wr) (.cells #[.string x.f0, .slice pA1 x.f1.length pc1, .slice pA2 x.f2.length pc2, .slice pA3 x.f3.length pc3, .int .i64 x.f4] 34 (0, 0))) qz3
        have qz4' := pw_cell_below (below_alloc (Below.refl _ wr) (.cells #[.string x.f0, .slice pA1 x.f1.length pc1, .slice pA2 x.f2.length pc2, .slice pA3 x.f3.length pc3, .int .i64 x.f4] 34 (0, 0))) qz4
        clear qz0 qz1 qz2 qz3 qz4
        rw [← hx, ← hy] at HT
        clear hx hy
        obtain ⟨b, hb⟩ : ∃ b, sameM x y = b := ⟨_, rfl⟩
        rw [hb] at HT
        have HBX := Aside0.mk hb
        clear hb
        cases gk with
        | zero => have := HN.out; omega
        | succ k1 =>
          cases b
          · have hF : Aside0 (false = allEq sameM l m) := ⟨by rw [← HT.out, Bool.false_and]⟩
            clear HT
            go_wp2_with (go_at_call 46; refine (HBX.out ▸ same_m x y _ _ _ _ _ _ _ _ _ _ _ _ p _ (pw_cell_below (below_alloc (below_alloc HB.out _) _) HP.out) (Kd.C_below pR1.out (below_alloc (below_alloc HB.out _) _)) (Kd.C_below pR2.out (below_alloc (below_alloc HB.out _) _)) (Kd.C_below pR3.out (below_alloc (below_alloc HB.out _) _)) (Kd.C_below qR1.out (below_alloc (below_alloc HB.out _) _)) (Kd.C_below qR2.out (below_alloc (below_alloc HB.out _) _)) (Kd.C_below qR3.out (below_alloc (below_alloc HB.out _) _)) pG1.out pG2.out pG3.out qG1.out qG2.out qG3.out).mono ?_; rintro e W1 ⟨rfl, hB1⟩)
            go_ret
            exact ⟨by rw [← hF.out]; rfl, below_step (below_alloc (below_alloc HB.out _) _) hB1⟩
          · have hT : Aside0 (allEq sameM (l.drop (i + 1)) (m.drop (i + 1)) = allEq sameM l m) := ⟨by rw [← HT.out, Bool.true_and]⟩
            clear HT
            go_wp2_with (go_at_call 46; refine (HBX.out ▸ same_m x y _ _ _ _ _ _ _ _ _ _ _ _ p _ (pw_cell_below (below_alloc (below_alloc HB.out _) _) HP.out) (Kd.C_below pR1.out (below_alloc (below_alloc HB.out _) _)) (Kd.C_below pR2.out (below_alloc (below_alloc HB.out _) _)) (Kd.C_below pR3.out (below_alloc (below_alloc HB.out _) _)) (Kd.C_below qR1.out (below_alloc (below_alloc HB.out _) _)) (Kd.C_below qR2.out (below_alloc (below_alloc HB.out _) _)) (Kd.C_below qR3.out (below_alloc (below_alloc HB.out _) _)) pG1.out pG2.out pG3.out qG1.out qG2.out qG3.out).mono ?_; rintro e W1 ⟨rfl, hB1⟩)
            go_roundg k1
            case measure => omega
            case rel => exact ⟨i + 1, by go_num, hT, ⟨below_step (below_alloc (below_alloc HB.out _) _) hB1⟩, ⟨by have := HN.out; omega⟩⟩
      · have hF : Aside0 (true = allEq sameM l m) := ⟨by rw [← HS.out, List.drop_of_length_le (by omega), List.drop_of_length_le (by have := HLEN.out; omega)]; rfl⟩
        clear HS
        go_wp2
        go_ret
        exact ⟨by rw [← hF.out]; rfl, HB.out⟩
  · have d1 : ((l.length : Int) != (m.length : Int)) = true := by rw [bne_iff_ne]; omega
    have HF := Aside0.mk (allEq_len sameM l m hlen)
    clear hlen
    go_enter Tryz.func53, Tryz.ntmps53
    rw [HF.out]
    go_wp2
    go_ret
    exact ⟨rfl, Below.refl _ _⟩
set_option maxRecDepth 100000 in
set_option maxHeartbeats 4000000 in
theorem eqf_E (l m : List (S68)) (A A2 : Option Addr) (c c2 : Nat) (w : World) (hC : k68.C w A l.length l) (hC2 : k68.C w A2 m.length m) (hc : l.length ≤ c) (hc2 : m.length ≤ c2) (p : Nat) (hp : w.cell? ⟨p, 0, none⟩ = some (.func (.func 50) #[] #[])) :
    Calls Tryz.prog 54 #[.slice A l.length c, .slice A2 m.length c2, .func (.func 51) #[] #[.pointer (some ⟨p, 0, none⟩)]] w (SameP w (allEq sameE l m)) := by
  have HC := Aside0.mk hC
  have HC2 := Aside0.mk hC2
  have hm1 := Kd.C_max hC
  have hm2 := Kd.C_max hC2
  clear hC hC2
  have HP := Aside0.mk hp
  clear hp
  by_cases hlen : l.length = m.length
  · have d1 : ((l.length : Int) != (m.length : Int)) = false := by rw [bne_eq_false_iff_eq]; omega
    have HLEN := Aside0.mk hlen
    clear hlen
    go_enter Tryz.func54, Tryz.ntmps54
    go_wp2
    go_loopg [17] l.length (fun n v W => ∃ i : Nat, v = .int .i64 i ∧ Aside0 (allEq sameE (l.drop i) (m.drop i) = allEq sameE l m) ∧ Aside0 (Below w.heap.size w W) ∧ Aside0 (i + n = l.length))
    case atStart => exact ⟨0, rfl, ⟨rfl⟩, ⟨Below.refl _ _⟩, ⟨by omega⟩⟩
    case round =>
      obtain ⟨i, rfl, HS, HB, HN⟩ := hrel
      by_cases hlt : i < l.length
      · have hlt2 : i < m.length := by have := HLEN.out; omega
        have HT := Aside0.mk ((allEq_step sameE l m i hlt hlt2).symm.trans HS.out)
        clear HS
        have d3 : (0 : Int) ≤ (i : Int) := by omega
        have d4 : (i : Int) < (l.length : Int) := by omega
        have d4' : (i : Int) < (m.length : Int) := by omega
        obtain ⟨pad, pA1, pc1, phad, pz0, pz1, pz2, pg1, pr1⟩ := at_T68 HC.out i d3 d4
        obtain ⟨x, hx⟩ : ∃ x, x = l[i]'hlt := ⟨_, rfl⟩
        have phrd : rd_T68 l i = x := by unfold rd_T68; rw [hx, List.getD_eq_getElem?_getD]; simp [hlt, hlt2]
        rw [phrd] at pz0 pz1 pz2 pg1 pr1
        rw [Int.toNat_natCast] at pz0 pz1 pz2
        replace pz0 := (HB.out.cell (World.block_lt_of_cell? w _ pz0)).trans pz0
        replace pz1 := (HB.out.cell (World.block_lt_of_cell? w _ pz1)).trans pz1
        replace pz2 := (HB.out.cell (World.block_lt_of_cell? w _ pz2)).trans pz2
        have pG1 := Aside0.mk pg1
        have pR1 := Aside0.mk pr1
        clear phrd pg1 pr1
        subst phad
        obtain ⟨qad, qA1, qc1, qhad, qz0, qz1, qz2, qg1, qr1⟩ := at_T68 HC2.out i d3 d4'
        obtain ⟨y, hy⟩ : ∃ y, y = m[i]'hlt2 := ⟨_, rfl⟩
        have qhrd : rd_T68 m i = y := by unfold rd_T68; rw [hy, List.getD_eq_getElem?_getD]; simp [hlt, hlt2]
        rw [qhrd] at qz0 qz1 qz2 qg1 qr1
        rw [Int.toNat_natCast] at qz0 qz1 qz2
        replace qz0 := (HB.out.cell (World.block_lt_of_cell? w _ qz0)).trans qz0
        replace qz1 := (HB.out.cell (World.block_lt_of_cell? w _ qz1)).trans qz1
        replace qz2 := (HB.out.cell (World.block_lt_of_cell? w _ qz2)).trans qz2
        have qG1 := Aside0.mk qg1
        have qR1 := Aside0.mk qr1
        clear qhrd qg1 qr1
        subst qhad
        have qz0' := pw_cell_below (below_alloc (Below.refl _ wr) (.cells #[.string x.f0, .slice pA1 x.f1.length pc1, .int .i64 x.f2] 68 (0, 0))) qz0
        have qz1' := pw_cell_below (below_alloc (Below.refl _ wr) (.cells #[.string x.f0, .slice pA1 x.f1.length pc1, .int .i64 x.f2] 68 (0, 0))) qz1
        have qz2' := pw_cell_below (below_alloc (Below.refl _ wr) (.cells #[.string x.f0, .slice pA1 x.f1.length pc1, .int .i64 x.f2] 68 (0, 0))) qz2
        clear qz0 qz1 qz2
        rw [← hx, ← hy] at HT
        clear hx hy
        obtain ⟨b, hb⟩ : ∃ b, sameE x y = b := ⟨_, rfl⟩
        rw [hb] at HT
        have HBX := Aside0.mk hb
        clear hb
        cases gk with
        | zero => have := HN.out; omega
        | succ k1 =>
          cases b
          · have hF : Aside0 (false = allEq sameE l m) := ⟨by rw [← HT.out, Bool.false_and]⟩
            clear HT
            go_wp2_with (go_at_call 51; refine (HBX.out ▸ same_e x y _ _ _ _ p _ (pw_cell_below (below_alloc (below_alloc HB.out _) _) HP.out) (Kd.C_below pR1.out (below_alloc (below_alloc HB.out _) _)) (Kd.C_below qR1.out (below_alloc (below_alloc HB.out _) _)) pG1.out qG1.out).mono ?_; rintro e W1 ⟨rfl, hB1⟩)
            go_ret
            exact ⟨by rw [← hF.out]; rfl, below_step (below_alloc (below_alloc HB.out _) _) hB1⟩
          · have hT : Aside0 (allEq sameE (l.drop (i + 1)) (m.drop (i + 1)) = allEq sameE l m) := ⟨by rw [← HT.out, Bool.true_and]⟩
            clear HT
            go_wp2_with (go_at_call 51; refine (HBX.out ▸ same_e x y _ _ _ _ p _ (pw_cell_below (below_alloc (below_alloc HB.out _) _) HP.out) (Kd.C_below pR1.out (below_alloc (below_alloc HB.out _) _)) (Kd.C_below qR1.out (below_alloc (below_alloc HB.out _) _)) pG1.out qG1.out).mono ?_; rintro e W1 ⟨rfl, hB1⟩)
            go_roundg k1
            case measure => omega
            case rel => exact ⟨i + 1, by go_num, hT, ⟨below_step (below_alloc (below_alloc HB.out _) _) hB1⟩, ⟨by have := HN.out; omega⟩⟩
      · have hF : Aside0 (true = allEq sameE l m) := ⟨by rw [← HS.out, List.drop_of_length_le (by omega), List.drop_of_length_le (by have := HLEN.out; omega)]; rfl⟩
        clear HS
        go_wp2
        go_ret
        exact ⟨by rw [← hF.out]; rfl, HB.out⟩
  · have d1 : ((l.length : Int) != (m.length : Int)) = true := by rw [bne_iff_ne]; omega
    have HF := Aside0.mk (allEq_len sameE l m hlen)
    clear hlen
    go_enter Tryz.func54, Tryz.ntmps54
    rw [HF.out]
    go_wp2
    go_ret
    exact ⟨rfl, Below.refl _ _⟩
end Go.Proofs.YtddpjjhekhompaaGreatDoor.P
namespace Go.Proofs.YtddpjjhekhompaaGreatDoor.P
open Go.RowKit Go.Proofs.YtddpjjhekhompaaGreatDoorW.PrintWords Go.Proofs.YtddpjjhekhompaaGreatDoorW.PrintLast Go.Proofs.YtddpjjhekhompaaGreatDoorW.PrintMore
set_option linter.unusedVariables false
set_option linter.unusedSimpArgs false
def sameFile (l0 : List (S34)) (l1 : List (S68)) (m0 : List (S34)) (m1 : List (S68)) : Bool := allEq sameM l0 m0 && allEq sameE l1 m1
def proto_Same.f (l0_0 : List (S34)) (l0_1 : List (S68)) (l1_0 : List (S34)) (l1_1 : List (S68)) : Option Bool := some (sameFile l0_0 l0_1 l1_0 l1_1)
set_option maxRecDepth 100000 in
set_option maxHeartbeats 4000000 in
theorem proto_Same.calls (A0_0 : Option Addr) (c0_0 : Nat) (l0_0 : List (S34)) (A0_1 : Option Addr) (c0_1 : Nat) (l0_1 : List (S68)) (A1_0 : Option Addr) (c1_0 : Nat) (l1_0 : List (S34)) (A1_1 : Option Addr) (c1_1 : Nat) (l1_1 : List (S68)) (r : Bool) (w : World)
    (hr0_0 : Kd.C k34 w A0_0 l0_0.length l0_0) (hc0_0 : l0_0.length ≤ c0_0) (hr0_1 : Kd.C k68 w A0_1 l0_1.length l0_1) (hc0_1 : l0_1.length ≤ c0_1) (hr1_0 : Kd.C k34 w A1_0 l1_0.length l1_0) (hc1_0 : l1_0.length ≤ c1_0) (hr1_1 : Kd.C k68 w A1_1 l1_1.length l1_1) (hc1_1 : l1_1.length ≤ c1_1)
    (h : proto_Same.f l0_0 l0_1 l1_0 l1_1 = some r) :
    Calls Tryz.prog 15 #[.agg #[.slice A0_0 l0_0.length c0_0, .slice A0_1 l0_1.length c0_1], .agg #[.slice A1_0 l1_0.length c1_0, .slice A1_1 l1_1.length c1_1]] w fun e w' => e = .returned (.bool r) ∧ Below w.heap.size w w' := by
  have hst1 := fun (a : Addr) (W : World) => run_store Tryz.prog W a (.func (.func 45) #[] #[]) .plain rfl
  have hst2 := fun (a : Addr) (W : World) => run_store Tryz.prog W a (.func (.func 50) #[] #[]) .plain rfl
  have HV2 := Aside0.mk (Option.some.inj h)
  unfold sameFile at HV2
  have R0 := Aside0.mk hr0_0
  have R1 := Aside0.mk hr0_1
  have S0 := Aside0.mk hr1_0
  have S1 := Aside0.mk hr1_1
  clear hr0_0 hr0_1 hr1_0 hr1_1 h
  go_enter Tryz.func15, Tryz.ntmps15
  go_wp2_with fail
  clear hst1 hst2
  have q0 := blk_alloc (blk_alloc (blk_alloc (blk_new w (.cells #[.slice A0_0 l0_0.length c0_0, .slice A0_1 l0_1.length c0_1] 26 (0, 0))) (.cells #[.slice A1_0 l1_0.length c1_0, .slice A1_1 l1_1.length c1_1] 26 (0, 0))) (.cells #[.func (.func 45) #[] #[]] 95 (0, 0))) (.cells #[.func (.func 50) #[] #[]] 100 (0, 0))
  have q1 := blk_alloc (blk_alloc (blk_new (w.alloc (.cells #[.slice A0_0 l0_0.length c0_0, .slice A0_1 l0_1.length c0_1] 26 (0, 0))) (.cells #[.slice A1_0 l1_0.length c1_0, .slice A1_1 l1_1.length c1_1] 26 (0, 0))) (.cells #[.func (.func 45) #[] #[]] 95 (0, 0))) (.cells #[.func (.func 50) #[] #[]] 100 (0, 0))
  have q2 := blk_alloc (blk_new ((w.alloc (.cells #[.slice A0_0 l0_0.length c0_0, .slice A0_1 l0_1.length c0_1] 26 (0, 0))).alloc (.cells #[.slice A1_0 l1_0.length c1_0, .slice A1_1 l1_1.length c1_1] 26 (0, 0))) (.cells #[.func (.func 45) #[] #[]] 95 (0, 0))) (.cells #[.func (.func 50) #[] #[]] 100 (0, 0))
  have q3 := blk_new (((w.alloc (.cells #[.slice A0_0 l0_0.length c0_0, .slice A0_1 l0_1.length c0_1] 26 (0, 0))).alloc (.cells #[.slice A1_0 l1_0.length c1_0, .slice A1_1 l1_1.length c1_1] 26 (0, 0))).alloc (.cells #[.func (.func 45) #[] #[]] 95 (0, 0))) (.cells #[.func (.func 50) #[] #[]] 100 (0, 0))
  have qb := below_alloc (below_alloc (below_alloc (below_alloc (Below.refl w.heap.size w) (.cells #[.slice A0_0 l0_0.length c0_0, .slice A0_1 l0_1.length c0_1] 26 (0, 0))) (.cells #[.slice A1_0 l1_0.length c1_0, .slice A1_1 l1_1.length c1_1] 26 (0, 0))) (.cells #[.func (.func 45) #[] #[]] 95 (0, 0))) (.cells #[.func (.func 50) #[] #[]] 100 (0, 0))
  simp only [World.size_alloc] at q1 q2 q3
  generalize (((w.alloc (.cells #[.slice A0_0 l0_0.length c0_0, .slice A0_1 l0_1.length c0_1] 26 (0, 0))).alloc (.cells #[.slice A1_0 l1_0.length c1_0, .slice A1_1 l1_1.length c1_1] 26 (0, 0))).alloc (.cells #[.func (.func 45) #[] #[]] 95 (0, 0))).alloc (.cells #[.func (.func 50) #[] #[]] 100 (0, 0)) = V0 at *
  have HB0 := Aside0.mk qb
  have HX0 := Aside0.mk q0
  have HY0 := Aside0.mk q1
  have HF0 := Aside0.mk q2
  have HG0 := Aside0.mk q3
  clear q0 q1 q2 q3 qb
  go_at_call 53
  refine (eqf_M l0_0 l1_0 A0_0 A1_0 c0_0 c1_0 V0 (Kd.C_below R0.out HB0.out) (Kd.C_below S0.out HB0.out) hc0_0 hc1_0 (w.heap.size + 1 + 1) ((blk_cell HF0.out 0).trans rfl)).mono ?_
  rintro e1 W1 ⟨rfl, hB1⟩
  have HX1 := Aside0.mk (blk_below HX0.out hB1)
  have HY1 := Aside0.mk (blk_below HY0.out hB1)
  have HG1 := Aside0.mk (blk_below HG0.out hB1)
  have HB1 := Aside0.mk (HB0.out.trans (hB1.mono HB0.out.size))
  clear HX0 HY0 HF0 HG0 HB0 hB1
  obtain ⟨b, hb⟩ : ∃ b, allEq sameM l0_0 l1_0 = b := ⟨_, rfl⟩
  rw [hb] at HV2 ⊢
  clear hb
  cases b
  · go_wp2_with fail
    go_ret
    exact ⟨by rw [← HV2.out, Bool.false_and]; rfl, HB1.out⟩
  · have x1 : W1.cell? ⟨w.heap.size, 1, none⟩ = some (.slice A0_1 l0_1.length c0_1) := (blk_cell HX1.out 1).trans rfl
    have y1 : W1.cell? ⟨w.heap.size + 1, 1, none⟩ = some (.slice A1_1 l1_1.length c1_1) := (blk_cell HY1.out 1).trans rfl
    go_wp2_with fail
    clear x1 y1
    go_at_call 54
    refine (eqf_E l0_1 l1_1 A0_1 A1_1 c0_1 c1_1 _ (Kd.C_below R1.out HB1.out) (Kd.C_below S1.out HB1.out) hc0_1 hc1_1 (w.heap.size + 1 + 1 + 1) ((blk_cell HG1.out 0).trans rfl)).mono ?_
    rintro e2 W2 ⟨rfl, hB2⟩
    have HB2 := Aside0.mk (HB1.out.trans (hB2.mono HB1.out.size))
    clear HX1 HY1 HG1 HB1 hB2
    obtain ⟨b, hb⟩ : ∃ b, allEq sameE l0_1 l1_1 = b := ⟨_, rfl⟩
    rw [hb] at HV2 ⊢
    clear hb
    go_wp2_with fail
    go_ret
    exact ⟨by rw [← HV2.out, Bool.true_and]; rfl, HB2.out⟩
end Go.Proofs.YtddpjjhekhompaaGreatDoor.P
namespace Go.Proofs.YtddpjjhekhompaaGreatDoor.P
open Go.RowKit Go.Proofs.YtddpjjhekhompaaGreatDoorW.PrintWords Go.Proofs.YtddpjjhekhompaaGreatDoorW.PrintLast Go.Proofs.YtddpjjhekhompaaGreatDoorW.PrintMore
set_option linter.unusedVariables false
set_option linter.unusedSimpArgs false
mutual
def trufflelaw07_ProtoBack.j0 : Nat → ByteArray → Bool → Bool → Option (Bool)
  | 0, _, _, _ => none
  | k + 1, x0, x3, x22 => if x22 = true then (some x3) else ((proto_Parse.f x0).bind fun bt162 => (if bt162.2.2.2 = 0 then (trufflelaw07_ProtoBack.l0 k 0 bt162.1 bt162.2.1) else (if (bt162.1.length : Int) = 0 then (some ((bt162.2.1.length : Int) == 0)) else (some false))))
def trufflelaw07_ProtoBack.l0 : Nat → Int → List (S34) → List (S68) → Option (Bool)
  | 0, _, _, _ => none
  | k + 1, x7, x171000, x171001 => if x7 < (x171000.length : Int) then (trufflelaw07_ProtoBack.l1 k x7 1 x171000 x171001) else ((proto_Print.f x171000 x171001).bind fun t175 => ((proto_Parse.f t175).bind fun bt176 => (if (t175.size : Int) > 5000 then (some true) else (if bt176.2.2.2 = 0 then ((proto_Same.f x171000 x171001 bt176.1 bt176.2.1).bind fun t185 => (if t185 = true then ((proto_Print.f bt176.1 bt176.2.1).bind fun t186 => (some (t186.toList == t175.toList))) else (some false))) else (some false)))))
def trufflelaw07_ProtoBack.l1 : Nat → Int → Int → List (S34) → List (S68) → Option (Bool)
  | 0, _, _, _, _ => none
  | k + 1, x7, x8, x171000, x171001 => if 0 ≤ x7 then (if x7 < (x171000.length : Int) then (if x8 ≤ (((rd_T34 x171000 x7).f2).length : Int) then (trufflelaw07_ProtoBack.l2 k x7 x8 false 0 x171000 x171001) else (trufflelaw07_ProtoBack.l0 k (wrap64 (x7 + 1)) x171000 x171001)) else (none)) else (none)
def trufflelaw07_ProtoBack.l2 : Nat → Int → Int → Bool → Int → List (S34) → List (S68) → Option (Bool)
  | 0, _, _, _, _, _, _ => none
  | k + 1, x7, x8, x9, x10, x171000, x171001 => if 0 ≤ x7 then (if x7 < (x171000.length : Int) then (if x10 < (((rd_T34 x171000 x7).f1).length : Int) then (if x9 = true then (trufflelaw07_ProtoBack.l2 k x7 x8 true (wrap64 (x10 + 1)) x171000 x171001) else (if 0 ≤ x10 then (trufflelaw07_ProtoBack.l2 k x7 x8 (((rd_T36 ((rd_T34 x171000 x7).f1) x10).f3) == x8) (wrap64 (x10 + 1)) x171000 x171001) else (none))) else (if x9 = true then (trufflelaw07_ProtoBack.l1 k x7 (wrap64 (x8 + 1)) x171000 x171001) else (some true))) else (none)) else (none)
end
def trufflelaw07_ProtoBack.f (k : Nat) (a0 : ByteArray) : Option (Bool) := (trufflelaw07_awake.f).bind fun t161 => (if t161 = true then (trufflelaw07_ProtoBack.j0 k a0 t161 (decide ((a0.size : Int) > 1500))) else (trufflelaw07_ProtoBack.j0 k a0 t161 true))
set_option maxHeartbeats 8000000 in
set_option maxRecDepth 100000 in
theorem trufflelaw07_ProtoBack.calls (k : Nat) (a0 : ByteArray) (w : World) (hG : GInv w) (h : trufflelaw07_ProtoBack.f k a0 = some true) :
    Calls Tryz.prog 3 #[.string a0] w fun e w' => e = .returned (.bool true) ∧ Below w.heap.size w w' := by
  have hu26 := Tryz.underlying26
  have HB := Aside0.mk (Below.refl w.heap.size w)
  have H : ((trufflelaw07_awake.f).bind fun t161 => (if t161 = true then (trufflelaw07_ProtoBack.j0 k a0 t161 (decide ((a0.size : Int) > 1500))) else (trufflelaw07_ProtoBack.j0 k a0 t161 true))) = some true := h
  clear h
  replace H := Option.bind_eq_some_iff.mp H
  obtain ⟨t161, A20, H⟩ := H
  replace H : (if t161 = true then (trufflelaw07_ProtoBack.j0 k a0 t161 (decide ((a0.size : Int) > 1500))) else (trufflelaw07_ProtoBack.j0 k a0 t161 true)) = some true := H
  have A2 := Aside0.mk A20
  clear A20
  have HC3 := Aside0.mk H
  clear H
  go_enter Tryz.func3, Tryz.ntmps3
  go_upto_region 2 with (first | ((with_reducible refine gate_callee (f := 12) rfl ?_); refine goesL_ (some 15) rfl rfl Tryz.func12 (by kernel_rfl) rfl #[] rfl (by (try simp only [List.map_toArray, List.map_cons, List.map_nil]); first | done | rfl | (simp only [List.length_drop, List.length_take]; rfl)) ?_; (with_reducible refine (trufflelaw07_awake.calls  t161 _ ?side1 A2.out).mono ?_); (case side1 => exact hG.below (by repeat (first | (with_reducible first | exact HB.out | apply below_alloc | apply pw_below_drewN | apply below_drew1) | exact HB.out))); rintro e w4 ⟨rfl, hb⟩; refine ⟨_, rfl, ?_⟩; have n0_ := Aside0.mk (below_step (by repeat (first | (with_reducible first | exact HB.out | apply below_alloc | apply pw_below_drewN | apply below_drew1) | exact HB.out)) hb); clear HB; have HB := n0_; clear n0_; (try clear hb); (try clear hb2); (try clear hk); (try clear hi)))
  (try simp only [Act.put, List.setIfInBounds_toArray, List.set_cons_zero, List.set_cons_succ])
  go_cut [22] (fun v22 wc => ∃ (kq : Nat) (x22_2 : Bool), v22 = .bool x22_2 ∧ Aside0 (trufflelaw07_ProtoBack.j0 kq a0 t161 x22_2 = some true) ∧ Aside0 (kq ≤ k) ∧ Aside0 (Below w.heap.size w wc))
  case first =>
    have H := HC3.out
    clear HC3
    by_cases c5 : t161 = true
    · subst c5
      have H1 : (trufflelaw07_ProtoBack.j0 k a0 true (decide ((a0.size : Int) > 1500))) = some true := by first | (rw [if_pos rfl] at H; exact H) | rfl
      clear H
      have H := H1
      clear H1
      have H' := Aside0.mk H
      clear H
      go_wp2
      go_meet
      case rel => exact ⟨_, (decide ((a0.size : Int) > 1500)), (by first | rfl | (simp; done) | (simp [*]; done)), H', ⟨by first | omega | exact Nat.le_refl _⟩, ⟨by repeat (first | (with_reducible first | exact HB.out | apply below_alloc | apply pw_below_drewN | apply below_drew1) | exact HB.out)⟩⟩
    · replace c5 := Bool.eq_false_iff.mpr c5
      subst c5
      have H1 : (trufflelaw07_ProtoBack.j0 k a0 false true) = some true := by first | (rw [if_neg (show ¬ (false = true) by decide)] at H; exact H) | rfl
      clear H
      have H := H1
      clear H1
      have H' := Aside0.mk H
      clear H
      go_wp2
      go_meet
      case rel => exact ⟨_, (true), (by first | rfl | (simp; done) | (simp [*]; done)), H', ⟨by first | omega | exact Nat.le_refl _⟩, ⟨by repeat (first | (with_reducible first | exact HB.out | apply below_alloc | apply pw_below_drewN | apply below_drew1) | exact HB.out)⟩⟩
  case rest =>
    clear HC3
    try clear c1
    try clear p2
    try clear c3
    try clear c5
    obtain ⟨kq, x22_2, rfl, HA, HJ2, HB⟩ := hcut
    cases kq with
    | zero => exact absurd HA.out (by simp [trufflelaw07_ProtoBack.j0])
    | succ kj2 =>
      have H := HA.out
      clear HA
      simp only [trufflelaw07_ProtoBack.j0] at H
      by_cases c6 : x22_2 = true
      · subst c6
        have H1 : (some t161) = some true := by first | (rw [if_pos rfl] at H; exact H) | rfl
        clear H
        have H := H1
        clear H1
        have hv_ := Option.some.inj H
        go_wp2
        go_ret
        exact ⟨by first | rfl | (rw [hv_]; done) | (simp [hv_]; done) | (simp [← hv_]; done) | (simp [] <;> rfl) | (simp [*] <;> rfl), by repeat (first | (with_reducible first | exact HB.out | apply below_alloc | apply pw_below_drewN | apply below_drew1) | exact HB.out)⟩
      · replace c6 := Bool.eq_false_iff.mpr c6
        subst c6
        have H1 : ((proto_Parse.f a0).bind fun bt162 => (if bt162.2.2.2 = 0 then (trufflelaw07_ProtoBack.l0 kj2 0 bt162.1 bt162.2.1) else (if (bt162.1.length : Int) = 0 then (some ((bt162.2.1.length : Int) == 0)) else (some false)))) = some true := by first | (rw [if_neg (show ¬ (false = true) by decide)] at H; exact H) | rfl
        clear H
        have H := H1
        clear H1
        replace H := Option.bind_eq_some_iff.mp H
        obtain ⟨⟨t162, t165, t168, t169⟩, A70, H⟩ := H
        replace H : (if t169 = 0 then (trufflelaw07_ProtoBack.l0 kj2 0 t162 t165) else (if (t162.length : Int) = 0 then (some ((t165.length : Int) == 0)) else (some false))) = some true := H
        have A7 := Aside0.mk A70
        clear A70
        by_cases c8 : t169 = 0
        · rw [if_pos c8] at H
          have c8b0 : (t169 == 0) = true := beq_iff_eq.mpr c8
          have c8b1 : (t169 != 0) = false := bne_eq_false_iff_eq.mpr c8
          clear c8
          have H' := Aside0.mk H
          clear H
          go_wp2_with (first | ((with_reducible refine gate_callee (f := 13) rfl ?_); refine goesL_ (some 26) rfl rfl Tryz.func13 (by kernel_rfl) rfl #[.string a0] rfl (by (try simp only [List.map_toArray, List.map_cons, List.map_nil]); first | done | rfl | (simp only [List.length_drop, List.length_take]; rfl)) ?_; (with_reducible refine (proto_Parse.calls a0 t162 t165 t168 t169 _ ?side1 A7.out).mono ?_); (case side1 => exact hG.below (by repeat (first | (with_reducible first | exact HB.out | apply below_alloc | apply pw_below_drewN | apply below_drew1) | exact HB.out))); rintro e w9 ⟨v163, v166, rfl, ho0, ho1, hb⟩; refine ⟨_, rfl, ?_⟩; have n0_ := Aside0.mk (Kd.R_lower ho0 (below_size (by repeat (first | (with_reducible first | exact HB.out | apply below_alloc | apply pw_below_drewN | apply below_drew1) | exact HB.out)))); have n1_ := Aside0.mk (Kd.R_lower ho1 (below_size (by repeat (first | (with_reducible first | exact HB.out | apply below_alloc | apply pw_below_drewN | apply below_drew1) | exact HB.out)))); have n2_ := Aside0.mk (below_step (by repeat (first | (with_reducible first | exact HB.out | apply below_alloc | apply pw_below_drewN | apply below_drew1) | exact HB.out)) hb); clear HB; have HO164 := n0_; have HO167 := n1_; have HB := n2_; clear n0_ n1_ n2_; (try clear hb); (try clear hb2); (try clear hk); (try clear hi); (try clear ho0); (try clear ho1)) | ((with_reducible refine gate_dst (N := 4) rfl ?_); (try (refine gate_guard (by rfl) ?_; dsimp only)); refine box_event ?hg (N := 4) ?hd (cs := #[.slice none 0 0, .slice none 0 0]) (t := 26) ?hr ?_; (case hd => rfl); (case hg => rfl); (case hr => first | (go_simp; done) | (go_simp; rfl)); intro gb170 hg w10 hbox hb; have n0_ := Aside0.mk (Kd.R_below (by (with_reducible repeat (first | apply Kd.R_alloc | apply Kd.R_drewN | apply Kd.R_drew)); exact HO164.out) hb); have n1_ := Aside0.mk (Kd.R_below (by (with_reducible repeat (first | apply Kd.R_alloc | apply Kd.R_drewN | apply Kd.R_drew)); exact HO167.out) hb); have n2_ := Aside0.mk (below_step (by repeat (first | (with_reducible first | exact HB.out | apply below_alloc | apply pw_below_drewN | apply below_drew1) | exact HB.out)) hb); have n3_ := Aside0.mk (hbox); have n4_ := Aside0.mk ((by rw [hg]; exact (below_size (by repeat (first | (with_reducible first | exact HB.out | apply below_alloc | apply pw_below_drewN | apply below_drew1) | exact HB.out))) : w.heap.size ≤ gb170)); have n5_ := Aside0.mk ((by rw [hg]; exact (below_size (by repeat (first | (with_reducible first | exact HB.out | apply below_alloc | apply pw_below_drewN | apply below_drew1) | exact HB.out))) : w.heap.size ≤ gb170)); clear HO164; clear HO167; clear HB; have HO164 := n0_; have HO167 := n1_; have HB := n2_; have BK170 := n3_; have GW170 := n4_; have GE170 := n5_; clear n0_ n1_ n2_ n3_ n4_ n5_; clear hb hbox hg; obtain ⟨Ao11, co11, eo11⟩ := Kd.R_slice HO164.out; subst eo11; have hcz12_0 : w10.cell? ⟨gb170, 0, none⟩ = some (.slice none 0 0) := (blk_cell BK170.out 0).trans rfl; have hcz12_1 : w10.cell? ⟨gb170, 1, none⟩ = some (.slice none 0 0) := (blk_cell BK170.out 1).trans rfl; have hfz12_0 := blk_frozen BK170.out 0; have hfz12_1 := blk_frozen BK170.out 1; obtain ⟨Ao13, co13, eo13⟩ := Kd.R_slice HO167.out; subst eo13))
          go_loopg [7] kj2 (fun kq v7 w' => ∃ (x7_2 : Int), v7 = .int .i64 x7_2 ∧ Aside0 (trufflelaw07_ProtoBack.l0 kq x7_2 t162 t165 = some true) ∧ Aside0 (kq ≤ kj2) ∧ Aside0 (Kd.R k34 34 w' w.heap.size (fun _ => True) (.slice Ao11 t162.length co11) t162) ∧ Aside0 (Kd.R k68 68 w' w.heap.size (fun _ => True) (.slice Ao13 t165.length co13) t165) ∧ Aside0 (w'.heap[gb170]? = some (.cells #[(.slice Ao11 t162.length co11), (.slice Ao13 t165.length co13)] 26 (0, 0))) ∧ Aside0 (Below w.heap.size w w'))
          case atStart => exact ⟨(0), (by first | rfl | (simp; done) | (simp [*]; done)), H', ⟨Nat.le_refl _⟩, ⟨by (with_reducible repeat (first | apply Kd.R_alloc | apply Kd.R_drewN | apply Kd.R_drew)); exact Kd.R_mono (Kd.R_far (p := ⟨gb170, 1, none⟩) (Kd.R_far (p := ⟨gb170, 0, none⟩) (Kd.R_types HO164.out BK170.out (by decide)) (fun _ hk => hk.2) (.slice Ao11 t162.length co11)) (fun _ hk => hk.2) (.slice Ao13 t165.length co13)) (fun _ hk => trivial)⟩, ⟨by (with_reducible repeat (first | apply Kd.R_alloc | apply Kd.R_drewN | apply Kd.R_drew)); exact Kd.R_mono (Kd.R_far (p := ⟨gb170, 1, none⟩) (Kd.R_far (p := ⟨gb170, 0, none⟩) (Kd.R_types HO167.out BK170.out (by decide)) (fun _ hk => hk.2) (.slice Ao11 t162.length co11)) (fun _ hk => hk.2) (.slice Ao13 t165.length co13)) (fun _ hk => trivial)⟩, ⟨by (with_reducible repeat (first | refine blk_drewN ?_ _ | refine blk_drew ?_ | refine blk_alloc ?_ _)); refine blk_put (cs := #[.slice Ao11 t162.length co11, .slice none 0 0]) ?_ 1 _ rfl; (with_reducible repeat (first | refine blk_drewN ?_ _ | refine blk_drew ?_ | refine blk_alloc ?_ _)); refine blk_put (cs := #[.slice none 0 0, .slice none 0 0]) ?_ 0 _ rfl; (with_reducible repeat (first | refine blk_drewN ?_ _ | refine blk_drew ?_ | refine blk_alloc ?_ _)); exact BK170.out⟩, ⟨by repeat (first | (with_reducible first | exact HB.out | apply below_alloc | apply pw_below_drewN | apply below_drew1 | refine below_set ?_ GE170.out) | exact HB.out)⟩⟩
          case round =>
            clear H'
            try clear c1
            try clear p2
            try clear c3
            try clear c5
            try clear c6
            try clear c8
            try clear c8b0
            try clear c8b1
            try clear c12
            try clear c13
            try clear hcz12_0
            try clear hcz12_1
            try clear hfz12_0
            try clear hfz12_1
            try clear p2
            obtain ⟨x7_2, rfl, HA, HK2, HO_171000, HO_171001, BK170, HB⟩ := hrel
            cases gk with
            | zero => exact absurd HA.out (by simp [trufflelaw07_ProtoBack.l0])
            | succ k2 =>
              have H := HA.out
              clear HA
              simp only [trufflelaw07_ProtoBack.l0] at H
              by_cases c14 : x7_2 < (t162.length : Int)
              · rw [if_pos c14] at H
                have c14b0 : decide (x7_2 < (t162.length : Int)) = true := decide_eq_true c14
                clear c14
                have H' := Aside0.mk H
                clear H
                have hcz15_0 : wr.cell? ⟨gb170, 0, none⟩ = some (.slice Ao11 t162.length co11) := (blk_cell BK170.out 0).trans rfl
                have hcz15_1 : wr.cell? ⟨gb170, 1, none⟩ = some (.slice Ao13 t165.length co13) := (blk_cell BK170.out 1).trans rfl
                have hfz15_0 := blk_frozen BK170.out 0
                have hfz15_1 := blk_frozen BK170.out 1
                go_wp2
                go_loopg [8] k2 (fun kq v8 w' => ∃ (x8_3 : Int), v8 = .int .i64 x8_3 ∧ Aside0 (trufflelaw07_ProtoBack.l1 kq x7_2 x8_3 t162 t165 = some true) ∧ Aside0 (kq ≤ k2) ∧ Aside0 (Kd.R k34 34 w' w.heap.size (fun _ => True) (.slice Ao11 t162.length co11) t162) ∧ Aside0 (Kd.R k68 68 w' w.heap.size (fun _ => True) (.slice Ao13 t165.length co13) t165) ∧ Aside0 (w'.heap[gb170]? = some (.cells #[(.slice Ao11 t162.length co11), (.slice Ao13 t165.length co13)] 26 (0, 0))) ∧ Aside0 (Below w.heap.size w w'))
                case atStart => exact ⟨(1), (by first | rfl | (simp; done) | (simp [*]; done)), H', ⟨Nat.le_refl _⟩, ⟨by (with_reducible repeat (first | apply Kd.R_alloc | apply Kd.R_drewN | apply Kd.R_drew)); exact HO_171000.out⟩, ⟨by (with_reducible repeat (first | apply Kd.R_alloc | apply Kd.R_drewN | apply Kd.R_drew)); exact HO_171001.out⟩, ⟨by (with_reducible repeat (first | refine blk_drewN ?_ _ | refine blk_drew ?_ | refine blk_alloc ?_ _)); exact BK170.out⟩, ⟨by repeat (first | (with_reducible first | exact HB.out | apply below_alloc | apply pw_below_drewN | apply below_drew1 | refine below_set ?_ GE170.out) | exact HB.out)⟩⟩
                case round =>
                  clear H'
                  try clear c1
                  try clear p2
                  try clear c3
                  try clear c5
                  try clear c6
                  try clear c8
                  try clear c8b0
                  try clear c8b1
                  try clear c12
                  try clear c13
                  try clear c14
                  try clear c14b0
                  try clear hcz12_0
                  try clear hcz12_1
                  try clear hcz15_0
                  try clear hcz15_1
                  try clear hfz12_0
                  try clear hfz12_1
                  try clear hfz15_0
                  try clear hfz15_1
                  try clear p2
                  obtain ⟨x8_3, rfl, HA, HK3, HO_171000, HO_171001, BK170, HB⟩ := hrel
                  cases gk with
                  | zero => exact absurd HA.out (by simp [trufflelaw07_ProtoBack.l1])
                  | succ k3 =>
                    have H := HA.out
                    clear HA
                    simp only [trufflelaw07_ProtoBack.l1] at H
                    by_cases c16 : 0 ≤ x7_2
                    · rw [if_pos c16] at H
                      have c16b0 : decide (0 ≤ x7_2) = true := decide_eq_true c16
                      clear c16
                      by_cases c17 : x7_2 < (t162.length : Int)
                      · rw [if_pos c17] at H
                        have c17b0 : decide (x7_2 < (t162.length : Int)) = true := decide_eq_true c17
                        clear c17
                        by_cases c18 : x8_3 ≤ (((rd_T34 t162 x7_2).f2).length : Int)
                        · rw [if_pos c18] at H
                          have c18b0 : decide (x8_3 ≤ (((rd_T34 t162 x7_2).f2).length : Int)) = true := decide_eq_true c18
                          clear c18
                          have H' := Aside0.mk H
                          clear H
                          have hcz19_0 : wr.cell? ⟨gb170, 0, none⟩ = some (.slice Ao11 t162.length co11) := (blk_cell BK170.out 0).trans rfl
                          have hcz19_1 : wr.cell? ⟨gb170, 1, none⟩ = some (.slice Ao13 t165.length co13) := (blk_cell BK170.out 1).trans rfl
                          have hfz19_0 := blk_frozen BK170.out 0
                          have hfz19_1 := blk_frozen BK170.out 1
                          have p171 : 0 ≤ (x7_2 : Int) := of_decide_eq_true (by first | (with_reducible assumption) | assumption)
                          have q171 : x7_2 < (t162.length : Int) := of_decide_eq_true (by first | (with_reducible assumption) | assumption)
                          obtain ⟨ad171, A171_1, c171_1, A171_2, c171_2, A171_3, c171_3, e171, hx171_0, hx171_1, hx171_2, hx171_3, hx171_4, hl171_1, hi171_1, hl171_2, hi171_2, hl171_3, hi171_3⟩ := at_T34 (Kd.R_reads' HO_171000.out).2.2 x7_2 p171 q171
                          cases e171
                          obtain ⟨ce171, hce171, hMe171, hcc171⟩ := Kd.R_get HO_171000.out z34 x7_2 p171 (by first | exact q171 | exact of_decide_eq_true (by first | (with_reducible assumption) | assumption) | (have e_ := (Kd.R_reads' HO_171000.out).1; omega))
                          obtain ⟨ve171_1, ve171_2, ve171_3, rfl, ge171_1, ge171_2, ge171_3⟩ := k34_openM hMe171
                          have hv171_1 := hcc171 1 _ rfl
                          rw [add_field _ _ 1 (by omega)] at hv171_1
                          replace hv171_1 := Option.some.inj (hv171_1.symm.trans hx171_1)
                          rw [hv171_1] at ge171_1
                          have HL171_1 := Aside0.mk (show Kd.R k36 36 _ _ _ _ ((rd_T34 t162 x7_2).f1) from ge171_1)
                          clear hv171_1 ge171_1
                          have hv171_2 := hcc171 2 _ rfl
                          rw [add_field _ _ 2 (by omega)] at hv171_2
                          replace hv171_2 := Option.some.inj (hv171_2.symm.trans hx171_2)
                          rw [hv171_2] at ge171_2
                          have HL171_2 := Aside0.mk (show Kd.R Kd.string 9 _ _ _ _ ((rd_T34 t162 x7_2).f2) from ge171_2)
                          clear hv171_2 ge171_2
                          have hv171_3 := hcc171 3 _ rfl
                          rw [add_field _ _ 3 (by omega)] at hv171_3
                          replace hv171_3 := Option.some.inj (hv171_3.symm.trans hx171_3)
                          rw [hv171_3] at ge171_3
                          have HL171_3 := Aside0.mk (show Kd.R (Kd.int .i64) 2 _ _ _ _ ((rd_T34 t162 x7_2).f3) from ge171_3)
                          clear hv171_3 ge171_3
                          clear hcc171 hce171
                          have HR171_1 := Aside0.mk hi171_1
                          have HC171_1 := Aside0.mk hl171_1
                          clear hi171_1 hl171_1
                          have HR171_2 := Aside0.mk hi171_2
                          have HC171_2 := Aside0.mk hl171_2
                          clear hi171_2 hl171_2
                          have HR171_3 := Aside0.mk hi171_3
                          have HC171_3 := Aside0.mk hl171_3
                          clear hi171_3 hl171_3
                          replace p171 := eq_true p171
                          replace q171 := eq_true q171
                          go_wp2
                          go_loopg [9, 10] k3 (fun kq v9 v10 w' => ∃ (x9_4 : Bool) (x10_4 : Int), v9 = .bool x9_4 ∧ v10 = .int .i64 x10_4 ∧ Aside0 (trufflelaw07_ProtoBack.l2 kq x7_2 x8_3 x9_4 x10_4 t162 t165 = some true) ∧ Aside0 (kq ≤ k3) ∧ Aside0 (Kd.R k34 34 w' w.heap.size (fun _ => True) (.slice (some ad171) t162.length co11) t162) ∧ Aside0 (Kd.R k68 68 w' w.heap.size (fun _ => True) (.slice Ao13 t165.length co13) t165) ∧ Aside0 (w'.heap[gb170]? = some (.cells #[(.slice (some ad171) t162.length co11), (.slice Ao13 t165.length co13)] 26 (0, 0))) ∧ Aside0 (Kd.C k36 w' A171_1 ((rd_T34 t162 x7_2).f1).length ((rd_T34 t162 x7_2).f1)) ∧ Aside0 (Kd.C Kd.string w' A171_2 ((rd_T34 t162 x7_2).f2).length ((rd_T34 t162 x7_2).f2)) ∧ Aside0 (Kd.C (Kd.int .i64) w' A171_3 ((rd_T34 t162 x7_2).f3).length ((rd_T34 t162 x7_2).f3)) ∧ Aside0 (Below w.heap.size w w'))
                          case atStart => exact ⟨(false), (0), (by first | rfl | (simp; done) | (simp [*]; done)), (by first | rfl | (simp; done) | (simp [*]; done)), H', ⟨Nat.le_refl _⟩, ⟨by (with_reducible repeat (first | apply Kd.R_alloc | apply Kd.R_drewN | apply Kd.R_drew)); exact HO_171000.out⟩, ⟨by (with_reducible repeat (first | apply Kd.R_alloc | apply Kd.R_drewN | apply Kd.R_drew)); exact HO_171001.out⟩, ⟨by (with_reducible repeat (first | refine blk_drewN ?_ _ | refine blk_drew ?_ | refine blk_alloc ?_ _)); exact BK170.out⟩, ⟨by repeat (first | (with_reducible exact HR171_1.out) | (with_reducible refine Kd.C_alloc ?_ _) | (with_reducible refine Kd.C_drewN ?_ _) | (with_reducible refine Kd.C_drew ?_) | exact HR171_1.out)⟩, ⟨by repeat (first | (with_reducible exact HR171_2.out) | (with_reducible refine Kd.C_alloc ?_ _) | (with_reducible refine Kd.C_drewN ?_ _) | (with_reducible refine Kd.C_drew ?_) | exact HR171_2.out)⟩, ⟨by repeat (first | (with_reducible exact HR171_3.out) | (with_reducible refine Kd.C_alloc ?_ _) | (with_reducible refine Kd.C_drewN ?_ _) | (with_reducible refine Kd.C_drew ?_) | exact HR171_3.out)⟩, ⟨by repeat (first | (with_reducible first | exact HB.out | apply below_alloc | apply pw_below_drewN | apply below_drew1 | refine below_set ?_ GE170.out) | exact HB.out)⟩⟩
                          case round =>
                            clear H'
                            try clear c1
                            try clear p1
                            try clear q1
                            try clear hx1
                            try clear p2
                            try clear c3
                            try clear c5
                            try clear c6
                            try clear c8
                            try clear c8b0
                            try clear c8b1
                            try clear c12
                            try clear c13
                            try clear c14
                            try clear c14b0
                            try clear c16
                            try clear c16b0
                            try clear c17
                            try clear c17b0
                            try clear p17
                            try clear q17
                            try clear hx17
                            try clear c18
                            try clear c18b0
                            try clear hcz12_0
                            try clear hcz12_1
                            try clear hcz15_0
                            try clear hcz15_1
                            try clear hcz19_0
                            try clear hcz19_1
                            try clear hfz12_0
                            try clear hfz12_1
                            try clear hfz15_0
                            try clear hfz15_1
                            try clear hfz19_0
                            try clear hfz19_1
                            try clear hx171_0
                            try clear hx171_1
                            try clear hx171_2
                            try clear hx171_3
                            try clear hx171_4
                            try clear p171
                            try clear p2
                            try clear q171
                            obtain ⟨x9_4, x10_4, rfl, rfl, HA, HK4, HO_171000, HO_171001, BK170, HR171_1, HR171_2, HR171_3, HB⟩ := hrel
                            cases gk with
                            | zero => exact absurd HA.out (by simp [trufflelaw07_ProtoBack.l2])
                            | succ k4 =>
                              have H := HA.out
                              clear HA
                              simp only [trufflelaw07_ProtoBack.l2] at H
                              by_cases c20 : 0 ≤ x7_2
                              · rw [if_pos c20] at H
                                have c20b0 : decide (0 ≤ x7_2) = true := decide_eq_true c20
                                clear c20
                                by_cases c21 : x7_2 < (t162.length : Int)
                                · rw [if_pos c21] at H
                                  have c21b0 : decide (x7_2 < (t162.length : Int)) = true := decide_eq_true c21
                                  clear c21
                                  by_cases c22 : x10_4 < (((rd_T34 t162 x7_2).f1).length : Int)
                                  · rw [if_pos c22] at H
                                    have c22b0 : decide (x10_4 < (((rd_T34 t162 x7_2).f1).length : Int)) = true := decide_eq_true c22
                                    clear c22
                                    by_cases c23 : x9_4 = true
                                    · subst c23
                                      have H1 : (trufflelaw07_ProtoBack.l2 k4 x7_2 x8_3 true (wrap64 (x10_4 + 1)) t162 t165) = some true := by first | (rw [if_pos rfl] at H; exact H) | rfl
                                      clear H
                                      have H := H1
                                      clear H1
                                      have H' := Aside0.mk H
                                      clear H
                                      have hcz24_0 : wr.cell? ⟨gb170, 0, none⟩ = some (.slice (some ad171) t162.length co11) := (blk_cell BK170.out 0).trans rfl
                                      have hcz24_1 : wr.cell? ⟨gb170, 1, none⟩ = some (.slice Ao13 t165.length co13) := (blk_cell BK170.out 1).trans rfl
                                      have hfz24_0 := blk_frozen BK170.out 0
                                      have hfz24_1 := blk_frozen BK170.out 1
                                      have p172 : 0 ≤ (x7_2 : Int) := of_decide_eq_true (by first | (with_reducible assumption) | assumption)
                                      have q172 : x7_2 < (t162.length : Int) := of_decide_eq_true (by first | (with_reducible assumption) | assumption)
                                      obtain ⟨ad172, A172_1, c172_1, A172_2, c172_2, A172_3, c172_3, e172, hx172_0, hx172_1, hx172_2, hx172_3, hx172_4, hl172_1, hi172_1, hl172_2, hi172_2, hl172_3, hi172_3⟩ := at_T34 (Kd.R_reads' HO_171000.out).2.2 x7_2 p172 q172
                                      obtain rfl : ad171 = ad172 := (by injection e172)
                                      obtain ⟨ce172, hce172, hMe172, hcc172⟩ := Kd.R_get HO_171000.out z34 x7_2 p172 (by first | exact q172 | exact of_decide_eq_true (by first | (with_reducible assumption) | assumption) | (have e_ := (Kd.R_reads' HO_171000.out).1; omega))
                                      obtain ⟨ve172_1, ve172_2, ve172_3, rfl, ge172_1, ge172_2, ge172_3⟩ := k34_openM hMe172
                                      have hv172_1 := hcc172 1 _ rfl
                                      rw [add_field _ _ 1 (by omega)] at hv172_1
                                      replace hv172_1 := Option.some.inj (hv172_1.symm.trans hx172_1)
                                      rw [hv172_1] at ge172_1
                                      have HL172_1 := Aside0.mk (show Kd.R k36 36 _ _ _ _ ((rd_T34 t162 x7_2).f1) from ge172_1)
                                      clear hv172_1 ge172_1
                                      have hv172_2 := hcc172 2 _ rfl
                                      rw [add_field _ _ 2 (by omega)] at hv172_2
                                      replace hv172_2 := Option.some.inj (hv172_2.symm.trans hx172_2)
                                      rw [hv172_2] at ge172_2
                                      have HL172_2 := Aside0.mk (show Kd.R Kd.string 9 _ _ _ _ ((rd_T34 t162 x7_2).f2) from ge172_2)
                                      clear hv172_2 ge172_2
                                      have hv172_3 := hcc172 3 _ rfl
                                      rw [add_field _ _ 3 (by omega)] at hv172_3
                                      replace hv172_3 := Option.some.inj (hv172_3.symm.trans hx172_3)
                                      rw [hv172_3] at ge172_3
                                      have HL172_3 := Aside0.mk (show Kd.R (Kd.int .i64) 2 _ _ _ _ ((rd_T34 t162 x7_2).f3) from ge172_3)
                                      clear hv172_3 ge172_3
                                      clear hcc172 hce172
                                      have HR172_1 := Aside0.mk hi172_1
                                      have HC172_1 := Aside0.mk hl172_1
                                      clear hi172_1 hl172_1
                                      have HR172_2 := Aside0.mk hi172_2
                                      have HC172_2 := Aside0.mk hl172_2
                                      clear hi172_2 hl172_2
                                      have HR172_3 := Aside0.mk hi172_3
                                      have HC172_3 := Aside0.mk hl172_3
                                      clear hi172_3 hl172_3
                                      replace p172 := eq_true p172
                                      replace q172 := eq_true q172
                                      go_wp2
                                      go_roundg k4
                                      case measure => have := HJ2.out; have := HK2.out; have := HK3.out; have := HK4.out; omega
                                      case rel => exact ⟨(true), (wrap64 (x10_4 + 1)), (by first | rfl | (simp; done) | (simp [*]; done)), (by first | rfl | (simp; done) | (simp [*]; done)), H', ⟨by have := HJ2.out; have := HK2.out; have := HK3.out; have := HK4.out; omega⟩, ⟨by (with_reducible repeat (first | apply Kd.R_alloc | apply Kd.R_drewN | apply Kd.R_drew)); exact HO_171000.out⟩, ⟨by (with_reducible repeat (first | apply Kd.R_alloc | apply Kd.R_drewN | apply Kd.R_drew)); exact HO_171001.out⟩, ⟨by (with_reducible repeat (first | refine blk_drewN ?_ _ | refine blk_drew ?_ | refine blk_alloc ?_ _)); exact BK170.out⟩, ⟨by repeat (first | (with_reducible exact HR171_1.out) | (with_reducible refine Kd.C_alloc ?_ _) | (with_reducible refine Kd.C_drewN ?_ _) | (with_reducible refine Kd.C_drew ?_) | exact HR171_1.out)⟩, ⟨by repeat (first | (with_reducible exact HR171_2.out) | (with_reducible refine Kd.C_alloc ?_ _) | (with_reducible refine Kd.C_drewN ?_ _) | (with_reducible refine Kd.C_drew ?_) | exact HR171_2.out)⟩, ⟨by repeat (first | (with_reducible exact HR171_3.out) | (with_reducible refine Kd.C_alloc ?_ _) | (with_reducible refine Kd.C_drewN ?_ _) | (with_reducible refine Kd.C_drew ?_) | exact HR171_3.out)⟩, ⟨by repeat (first | (with_reducible first | exact HB.out | apply below_alloc | apply pw_below_drewN | apply below_drew1 | refine below_set ?_ GE170.out) | exact HB.out)⟩⟩
                                    · replace c23 := Bool.eq_false_iff.mpr c23
                                      subst c23
                                      have H1 : (if 0 ≤ x10_4 then (trufflelaw07_ProtoBack.l2 k4 x7_2 x8_3 (((rd_T36 ((rd_T34 t162 x7_2).f1) x10_4).f3) == x8_3) (wrap64 (x10_4 + 1)) t162 t165) else (none)) = some true := by first | (rw [if_neg (show ¬ (false = true) by decide)] at H; exact H) | rfl
                                      clear H
                                      have H := H1
                                      clear H1
                                      by_cases c25 : 0 ≤ x10_4
                                      · rw [if_pos c25] at H
                                        have c25b0 : decide (0 ≤ x10_4) = true := decide_eq_true c25
                                        clear c25
                                        have H' := Aside0.mk H
                                        clear H
                                        have hcz26_0 : wr.cell? ⟨gb170, 0, none⟩ = some (.slice (some ad171) t162.length co11) := (blk_cell BK170.out 0).trans rfl
                                        have hcz26_1 : wr.cell? ⟨gb170, 1, none⟩ = some (.slice Ao13 t165.length co13) := (blk_cell BK170.out 1).trans rfl
                                        have hfz26_0 := blk_frozen BK170.out 0
                                        have hfz26_1 := blk_frozen BK170.out 1
                                        have p172 : 0 ≤ (x7_2 : Int) := of_decide_eq_true (by first | (with_reducible assumption) | assumption)
                                        have q172 : x7_2 < (t162.length : Int) := of_decide_eq_true (by first | (with_reducible assumption) | assumption)
                                        obtain ⟨ad172, A172_1, c172_1, A172_2, c172_2, A172_3, c172_3, e172, hx172_0, hx172_1, hx172_2, hx172_3, hx172_4, hl172_1, hi172_1, hl172_2, hi172_2, hl172_3, hi172_3⟩ := at_T34 (Kd.R_reads' HO_171000.out).2.2 x7_2 p172 q172
                                        obtain rfl : ad171 = ad172 := (by injection e172)
                                        obtain ⟨ce172, hce172, hMe172, hcc172⟩ := Kd.R_get HO_171000.out z34 x7_2 p172 (by first | exact q172 | exact of_decide_eq_true (by first | (with_reducible assumption) | assumption) | (have e_ := (Kd.R_reads' HO_171000.out).1; omega))
                                        obtain ⟨ve172_1, ve172_2, ve172_3, rfl, ge172_1, ge172_2, ge172_3⟩ := k34_openM hMe172
                                        have hv172_1 := hcc172 1 _ rfl
                                        rw [add_field _ _ 1 (by omega)] at hv172_1
                                        replace hv172_1 := Option.some.inj (hv172_1.symm.trans hx172_1)
                                        rw [hv172_1] at ge172_1
                                        have HL172_1 := Aside0.mk (show Kd.R k36 36 _ _ _ _ ((rd_T34 t162 x7_2).f1) from ge172_1)
                                        clear hv172_1 ge172_1
                                        have hv172_2 := hcc172 2 _ rfl
                                        rw [add_field _ _ 2 (by omega)] at hv172_2
                                        replace hv172_2 := Option.some.inj (hv172_2.symm.trans hx172_2)
                                        rw [hv172_2] at ge172_2
                                        have HL172_2 := Aside0.mk (show Kd.R Kd.string 9 _ _ _ _ ((rd_T34 t162 x7_2).f2) from ge172_2)
                                        clear hv172_2 ge172_2
                                        have hv172_3 := hcc172 3 _ rfl
                                        rw [add_field _ _ 3 (by omega)] at hv172_3
                                        replace hv172_3 := Option.some.inj (hv172_3.symm.trans hx172_3)
                                        rw [hv172_3] at ge172_3
                                        have HL172_3 := Aside0.mk (show Kd.R (Kd.int .i64) 2 _ _ _ _ ((rd_T34 t162 x7_2).f3) from ge172_3)
                                        clear hv172_3 ge172_3
                                        clear hcc172 hce172
                                        have HR172_1 := Aside0.mk hi172_1
                                        have HC172_1 := Aside0.mk hl172_1
                                        clear hi172_1 hl172_1
                                        have HR172_2 := Aside0.mk hi172_2
                                        have HC172_2 := Aside0.mk hl172_2
                                        clear hi172_2 hl172_2
                                        have HR172_3 := Aside0.mk hi172_3
                                        have HC172_3 := Aside0.mk hl172_3
                                        clear hi172_3 hl172_3
                                        replace p172 := eq_true p172
                                        replace q172 := eq_true q172
                                        have p173 : 0 ≤ (x7_2 : Int) := of_decide_eq_true (by first | (with_reducible assumption) | assumption)
                                        have q173 : x7_2 < (t162.length : Int) := of_decide_eq_true (by first | (with_reducible assumption) | assumption)
                                        obtain ⟨ad173, A173_1, c173_1, A173_2, c173_2, A173_3, c173_3, e173, hx173_0, hx173_1, hx173_2, hx173_3, hx173_4, hl173_1, hi173_1, hl173_2, hi173_2, hl173_3, hi173_3⟩ := at_T34 (Kd.R_reads' HO_171000.out).2.2 x7_2 p173 q173
                                        obtain rfl : ad171 = ad173 := (by injection e173)
                                        obtain ⟨ce173, hce173, hMe173, hcc173⟩ := Kd.R_get HO_171000.out z34 x7_2 p173 (by first | exact q173 | exact of_decide_eq_true (by first | (with_reducible assumption) | assumption) | (have e_ := (Kd.R_reads' HO_171000.out).1; omega))
                                        obtain ⟨ve173_1, ve173_2, ve173_3, rfl, ge173_1, ge173_2, ge173_3⟩ := k34_openM hMe173
                                        have hv173_1 := hcc173 1 _ rfl
                                        rw [add_field _ _ 1 (by omega)] at hv173_1
                                        replace hv173_1 := Option.some.inj (hv173_1.symm.trans hx173_1)
                                        rw [hv173_1] at ge173_1
                                        have HL173_1 := Aside0.mk (show Kd.R k36 36 _ _ _ _ ((rd_T34 t162 x7_2).f1) from ge173_1)
                                        clear hv173_1 ge173_1
                                        have hv173_2 := hcc173 2 _ rfl
                                        rw [add_field _ _ 2 (by omega)] at hv173_2
                                        replace hv173_2 := Option.some.inj (hv173_2.symm.trans hx173_2)
                                        rw [hv173_2] at ge173_2
                                        have HL173_2 := Aside0.mk (show Kd.R Kd.string 9 _ _ _ _ ((rd_T34 t162 x7_2).f2) from ge173_2)
                                        clear hv173_2 ge173_2
                                        have hv173_3 := hcc173 3 _ rfl
                                        rw [add_field _ _ 3 (by omega)] at hv173_3
                                        replace hv173_3 := Option.some.inj (hv173_3.symm.trans hx173_3)
                                        rw [hv173_3] at ge173_3
                                        have HL173_3 := Aside0.mk (show Kd.R (Kd.int .i64) 2 _ _ _ _ ((rd_T34 t162 x7_2).f3) from ge173_3)
                                        clear hv173_3 ge173_3
                                        clear hcc173 hce173
                                        have HR173_1 := Aside0.mk hi173_1
                                        have HC173_1 := Aside0.mk hl173_1
                                        clear hi173_1 hl173_1
                                        have HR173_2 := Aside0.mk hi173_2
                                        have HC173_2 := Aside0.mk hl173_2
                                        clear hi173_2 hl173_2
                                        have HR173_3 := Aside0.mk hi173_3
                                        have HC173_3 := Aside0.mk hl173_3
                                        clear hi173_3 hl173_3
                                        replace p173 := eq_true p173
                                        replace q173 := eq_true q173
                                        have ea_ := Option.some.inj (hx172_1.symm.trans hx173_1)
                                        injection ea_ with ea_ en_ ec_
                                        subst ea_
                                        subst ec_
                                        clear en_
                                        have ea_ := Option.some.inj (hx172_2.symm.trans hx173_2)
                                        injection ea_ with ea_ en_ ec_
                                        subst ea_
                                        subst ec_
                                        clear en_
                                        have ea_ := Option.some.inj (hx172_3.symm.trans hx173_3)
                                        injection ea_ with ea_ en_ ec_
                                        subst ea_
                                        subst ec_
                                        clear en_
                                        have p174 : 0 ≤ (x10_4 : Int) := of_decide_eq_true (by first | (with_reducible assumption) | assumption)
                                        have q174 : x10_4 < (((rd_T34 t162 x7_2).f1).length : Int) := of_decide_eq_true (by first | (with_reducible assumption) | assumption)
                                        obtain ⟨ad174, e174, hx174_0, hx174_1, hx174_2, hx174_3, hx174_4, hx174_5, hx174_6⟩ := at_T36 (by repeat (first | (with_reducible exact HR173_1.out) | (with_reducible refine Kd.C_alloc ?_ _) | (with_reducible refine Kd.C_drewN ?_ _) | (with_reducible refine Kd.C_drew ?_) | exact HR173_1.out)) x10_4 p174 q174
                                        cases e174
                                        replace p174 := eq_true p174
                                        replace q174 := eq_true q174
                                        go_wp2
                                        go_roundg k4
                                        case measure => have := HJ2.out; have := HK2.out; have := HK3.out; have := HK4.out; omega
                                        case rel => exact ⟨((((rd_T36 ((rd_T34 t162 x7_2).f1) x10_4).f3) == x8_3)), (wrap64 (x10_4 + 1)), (by first | rfl | (simp; done) | (simp [*]; done)), (by first | rfl | (simp; done) | (simp [*]; done)), H', ⟨by have := HJ2.out; have := HK2.out; have := HK3.out; have := HK4.out; omega⟩, ⟨by (with_reducible repeat (first | apply Kd.R_alloc | apply Kd.R_drewN | apply Kd.R_drew)); exact HO_171000.out⟩, ⟨by (with_reducible repeat (first | apply Kd.R_alloc | apply Kd.R_drewN | apply Kd.R_drew)); exact HO_171001.out⟩, ⟨by (with_reducible repeat (first | refine blk_drewN ?_ _ | refine blk_drew ?_ | refine blk_alloc ?_ _)); exact BK170.out⟩, ⟨by repeat (first | (with_reducible exact HR171_1.out) | (with_reducible refine Kd.C_alloc ?_ _) | (with_reducible refine Kd.C_drewN ?_ _) | (with_reducible refine Kd.C_drew ?_) | exact HR171_1.out)⟩, ⟨by repeat (first | (with_reducible exact HR171_2.out) | (with_reducible refine Kd.C_alloc ?_ _) | (with_reducible refine Kd.C_drewN ?_ _) | (with_reducible refine Kd.C_drew ?_) | exact HR171_2.out)⟩, ⟨by repeat (first | (with_reducible exact HR171_3.out) | (with_reducible refine Kd.C_alloc ?_ _) | (with_reducible refine Kd.C_drewN ?_ _) | (with_reducible refine Kd.C_drew ?_) | exact HR171_3.out)⟩, ⟨by repeat (first | (with_reducible first | exact HB.out | apply below_alloc | apply pw_below_drewN | apply below_drew1 | refine below_set ?_ GE170.out) | exact HB.out)⟩⟩
                                      · rw [if_neg c25] at H
                                        exact absurd H (by simp)
                                  · rw [if_neg c22] at H
                                    have c22b0 : decide (x10_4 < (((rd_T34 t162 x7_2).f1).length : Int)) = false := decide_eq_false c22
                                    clear c22
                                    by_cases c27 : x9_4 = true
                                    · subst c27
                                      have H1 : (trufflelaw07_ProtoBack.l1 k4 x7_2 (wrap64 (x8_3 + 1)) t162 t165) = some true := by first | (rw [if_pos rfl] at H; exact H) | rfl
                                      clear H
                                      have H := H1
                                      clear H1
                                      have H' := Aside0.mk H
                                      clear H
                                      have hcz28_0 : wr.cell? ⟨gb170, 0, none⟩ = some (.slice (some ad171) t162.length co11) := (blk_cell BK170.out 0).trans rfl
                                      have hcz28_1 : wr.cell? ⟨gb170, 1, none⟩ = some (.slice Ao13 t165.length co13) := (blk_cell BK170.out 1).trans rfl
                                      have hfz28_0 := blk_frozen BK170.out 0
                                      have hfz28_1 := blk_frozen BK170.out 1
                                      have p172 : 0 ≤ (x7_2 : Int) := of_decide_eq_true (by first | (with_reducible assumption) | assumption)
                                      have q172 : x7_2 < (t162.length : Int) := of_decide_eq_true (by first | (with_reducible assumption) | assumption)
                                      obtain ⟨ad172, A172_1, c172_1, A172_2, c172_2, A172_3, c172_3, e172, hx172_0, hx172_1, hx172_2, hx172_3, hx172_4, hl172_1, hi172_1, hl172_2, hi172_2, hl172_3, hi172_3⟩ := at_T34 (Kd.R_reads' HO_171000.out).2.2 x7_2 p172 q172
                                      obtain rfl : ad171 = ad172 := (by injection e172)
                                      obtain ⟨ce172, hce172, hMe172, hcc172⟩ := Kd.R_get HO_171000.out z34 x7_2 p172 (by first | exact q172 | exact of_decide_eq_true (by first | (with_reducible assumption) | assumption) | (have e_ := (Kd.R_reads' HO_171000.out).1; omega))
                                      obtain ⟨ve172_1, ve172_2, ve172_3, rfl, ge172_1, ge172_2, ge172_3⟩ := k34_openM hMe172
                                      have hv172_1 := hcc172 1 _ rfl
                                      rw [add_field _ _ 1 (by omega)] at hv172_1
                                      replace hv172_1 := Option.some.inj (hv172_1.symm.trans hx172_1)
                                      rw [hv172_1] at ge172_1
                                      have HL172_1 := Aside0.mk (show Kd.R k36 36 _ _ _ _ ((rd_T34 t162 x7_2).f1) from ge172_1)
                                      clear hv172_1 ge172_1
                                      have hv172_2 := hcc172 2 _ rfl
                                      rw [add_field _ _ 2 (by omega)] at hv172_2
                                      replace hv172_2 := Option.some.inj (hv172_2.symm.trans hx172_2)
                                      rw [hv172_2] at ge172_2
                                      have HL172_2 := Aside0.mk (show Kd.R Kd.string 9 _ _ _ _ ((rd_T34 t162 x7_2).f2) from ge172_2)
                                      clear hv172_2 ge172_2
                                      have hv172_3 := hcc172 3 _ rfl
                                      rw [add_field _ _ 3 (by omega)] at hv172_3
                                      replace hv172_3 := Option.some.inj (hv172_3.symm.trans hx172_3)
                                      rw [hv172_3] at ge172_3
                                      have HL172_3 := Aside0.mk (show Kd.R (Kd.int .i64) 2 _ _ _ _ ((rd_T34 t162 x7_2).f3) from ge172_3)
                                      clear hv172_3 ge172_3
                                      clear hcc172 hce172
                                      have HR172_1 := Aside0.mk hi172_1
                                      have HC172_1 := Aside0.mk hl172_1
                                      clear hi172_1 hl172_1
                                      have HR172_2 := Aside0.mk hi172_2
                                      have HC172_2 := Aside0.mk hl172_2
                                      clear hi172_2 hl172_2
                                      have HR172_3 := Aside0.mk hi172_3
                                      have HC172_3 := Aside0.mk hl172_3
                                      clear hi172_3 hl172_3
                                      replace p172 := eq_true p172
                                      replace q172 := eq_true q172
                                      go_wp2
                                      go_roundg k4
                                      case measure => have := HJ2.out; have := HK2.out; have := HK3.out; have := HK4.out; omega
                                      case rel => exact ⟨(wrap64 (x8_3 + 1)), (by first | rfl | (simp; done) | (simp [*]; done)), H', ⟨by have := HJ2.out; have := HK2.out; have := HK3.out; have := HK4.out; omega⟩, ⟨by (with_reducible repeat (first | apply Kd.R_alloc | apply Kd.R_drewN | apply Kd.R_drew)); exact HO_171000.out⟩, ⟨by (with_reducible repeat (first | apply Kd.R_alloc | apply Kd.R_drewN | apply Kd.R_drew)); exact HO_171001.out⟩, ⟨by (with_reducible repeat (first | refine blk_drewN ?_ _ | refine blk_drew ?_ | refine blk_alloc ?_ _)); exact BK170.out⟩, ⟨by repeat (first | (with_reducible first | exact HB.out | apply below_alloc | apply pw_below_drewN | apply below_drew1 | refine below_set ?_ GE170.out) | exact HB.out)⟩⟩
                                    · replace c27 := Bool.eq_false_iff.mpr c27
                                      subst c27
                                      have H1 : (some true) = some true := by first | (rw [if_neg (show ¬ (false = true) by decide)] at H; exact H) | rfl
                                      clear H
                                      have H := H1
                                      clear H1
                                      clear H
                                      have hcz29_0 : wr.cell? ⟨gb170, 0, none⟩ = some (.slice (some ad171) t162.length co11) := (blk_cell BK170.out 0).trans rfl
                                      have hcz29_1 : wr.cell? ⟨gb170, 1, none⟩ = some (.slice Ao13 t165.length co13) := (blk_cell BK170.out 1).trans rfl
                                      have hfz29_0 := blk_frozen BK170.out 0
                                      have hfz29_1 := blk_frozen BK170.out 1
                                      have p172 : 0 ≤ (x7_2 : Int) := of_decide_eq_true (by first | (with_reducible assumption) | assumption)
                                      have q172 : x7_2 < (t162.length : Int) := of_decide_eq_true (by first | (with_reducible assumption) | assumption)
                                      obtain ⟨ad172, A172_1, c172_1, A172_2, c172_2, A172_3, c172_3, e172, hx172_0, hx172_1, hx172_2, hx172_3, hx172_4, hl172_1, hi172_1, hl172_2, hi172_2, hl172_3, hi172_3⟩ := at_T34 (Kd.R_reads' HO_171000.out).2.2 x7_2 p172 q172
                                      obtain rfl : ad171 = ad172 := (by injection e172)
                                      obtain ⟨ce172, hce172, hMe172, hcc172⟩ := Kd.R_get HO_171000.out z34 x7_2 p172 (by first | exact q172 | exact of_decide_eq_true (by first | (with_reducible assumption) | assumption) | (have e_ := (Kd.R_reads' HO_171000.out).1; omega))
                                      obtain ⟨ve172_1, ve172_2, ve172_3, rfl, ge172_1, ge172_2, ge172_3⟩ := k34_openM hMe172
                                      have hv172_1 := hcc172 1 _ rfl
                                      rw [add_field _ _ 1 (by omega)] at hv172_1
                                      replace hv172_1 := Option.some.inj (hv172_1.symm.trans hx172_1)
                                      rw [hv172_1] at ge172_1
                                      have HL172_1 := Aside0.mk (show Kd.R k36 36 _ _ _ _ ((rd_T34 t162 x7_2).f1) from ge172_1)
                                      clear hv172_1 ge172_1
                                      have hv172_2 := hcc172 2 _ rfl
                                      rw [add_field _ _ 2 (by omega)] at hv172_2
                                      replace hv172_2 := Option.some.inj (hv172_2.symm.trans hx172_2)
                                      rw [hv172_2] at ge172_2
                                      have HL172_2 := Aside0.mk (show Kd.R Kd.string 9 _ _ _ _ ((rd_T34 t162 x7_2).f2) from ge172_2)
                                      clear hv172_2 ge172_2
                                      have hv172_3 := hcc172 3 _ rfl
                                      rw [add_field _ _ 3 (by omega)] at hv172_3
                                      replace hv172_3 := Option.some.inj (hv172_3.symm.trans hx172_3)
                                      rw [hv172_3] at ge172_3
                                      have HL172_3 := Aside0.mk (show Kd.R (Kd.int .i64) 2 _ _ _ _ ((rd_T34 t162 x7_2).f3) from ge172_3)
                                      clear hv172_3 ge172_3
                                      clear hcc172 hce172
                                      have HR172_1 := Aside0.mk hi172_1
                                      have HC172_1 := Aside0.mk hl172_1
                                      clear hi172_1 hl172_1
                                      have HR172_2 := Aside0.mk hi172_2
                                      have HC172_2 := Aside0.mk hl172_2
                                      clear hi172_2 hl172_2
                                      have HR172_3 := Aside0.mk hi172_3
                                      have HC172_3 := Aside0.mk hl172_3
                                      clear hi172_3 hl172_3
                                      replace p172 := eq_true p172
                                      replace q172 := eq_true q172
                                      go_wp2
                                      go_ret
                                      exact ⟨by first | rfl | (simp [] <;> rfl) | (simp [*] <;> rfl), by repeat (first | (with_reducible first | exact HB.out | apply below_alloc | apply pw_below_drewN | apply below_drew1 | refine below_set ?_ GE170.out) | exact HB.out)⟩
                                · rw [if_neg c21] at H
                                  exact absurd H (by simp)
                              · rw [if_neg c20] at H
                                exact absurd H (by simp)
                        · rw [if_neg c18] at H
                          have c18b0 : decide (x8_3 ≤ (((rd_T34 t162 x7_2).f2).length : Int)) = false := decide_eq_false c18
                          clear c18
                          have H' := Aside0.mk H
                          clear H
                          have hcz30_0 : wr.cell? ⟨gb170, 0, none⟩ = some (.slice Ao11 t162.length co11) := (blk_cell BK170.out 0).trans rfl
                          have hcz30_1 : wr.cell? ⟨gb170, 1, none⟩ = some (.slice Ao13 t165.length co13) := (blk_cell BK170.out 1).trans rfl
                          have hfz30_0 := blk_frozen BK170.out 0
                          have hfz30_1 := blk_frozen BK170.out 1
                          have p171 : 0 ≤ (x7_2 : Int) := of_decide_eq_true (by first | (with_reducible assumption) | assumption)
                          have q171 : x7_2 < (t162.length : Int) := of_decide_eq_true (by first | (with_reducible assumption) | assumption)
                          obtain ⟨ad171, A171_1, c171_1, A171_2, c171_2, A171_3, c171_3, e171, hx171_0, hx171_1, hx171_2, hx171_3, hx171_4, hl171_1, hi171_1, hl171_2, hi171_2, hl171_3, hi171_3⟩ := at_T34 (Kd.R_reads' HO_171000.out).2.2 x7_2 p171 q171
                          cases e171
                          obtain ⟨ce171, hce171, hMe171, hcc171⟩ := Kd.R_get HO_171000.out z34 x7_2 p171 (by first | exact q171 | exact of_decide_eq_true (by first | (with_reducible assumption) | assumption) | (have e_ := (Kd.R_reads' HO_171000.out).1; omega))
                          obtain ⟨ve171_1, ve171_2, ve171_3, rfl, ge171_1, ge171_2, ge171_3⟩ := k34_openM hMe171
                          have hv171_1 := hcc171 1 _ rfl
                          rw [add_field _ _ 1 (by omega)] at hv171_1
                          replace hv171_1 := Option.some.inj (hv171_1.symm.trans hx171_1)
                          rw [hv171_1] at ge171_1
                          have HL171_1 := Aside0.mk (show Kd.R k36 36 _ _ _ _ ((rd_T34 t162 x7_2).f1) from ge171_1)
                          clear hv171_1 ge171_1
                          have hv171_2 := hcc171 2 _ rfl
                          rw [add_field _ _ 2 (by omega)] at hv171_2
                          replace hv171_2 := Option.some.inj (hv171_2.symm.trans hx171_2)
                          rw [hv171_2] at ge171_2
                          have HL171_2 := Aside0.mk (show Kd.R Kd.string 9 _ _ _ _ ((rd_T34 t162 x7_2).f2) from ge171_2)
                          clear hv171_2 ge171_2
                          have hv171_3 := hcc171 3 _ rfl
                          rw [add_field _ _ 3 (by omega)] at hv171_3
                          replace hv171_3 := Option.some.inj (hv171_3.symm.trans hx171_3)
                          rw [hv171_3] at ge171_3
                          have HL171_3 := Aside0.mk (show Kd.R (Kd.int .i64) 2 _ _ _ _ ((rd_T34 t162 x7_2).f3) from ge171_3)
                          clear hv171_3 ge171_3
                          clear hcc171 hce171
                          have HR171_1 := Aside0.mk hi171_1
                          have HC171_1 := Aside0.mk hl171_1
                          clear hi171_1 hl171_1
                          have HR171_2 := Aside0.mk hi171_2
                          have HC171_2 := Aside0.mk hl171_2
                          clear hi171_2 hl171_2
                          have HR171_3 := Aside0.mk hi171_3
                          have HC171_3 := Aside0.mk hl171_3
                          clear hi171_3 hl171_3
                          replace p171 := eq_true p171
                          replace q171 := eq_true q171
                          go_wp2
                          go_roundg k3
                          case measure => have := HJ2.out; have := HK2.out; have := HK3.out; omega
                          case rel => exact ⟨(wrap64 (x7_2 + 1)), (by first | rfl | (simp; done) | (simp [*]; done)), H', ⟨by have := HJ2.out; have := HK2.out; have := HK3.out; omega⟩, ⟨by (with_reducible repeat (first | apply Kd.R_alloc | apply Kd.R_drewN | apply Kd.R_drew)); exact HO_171000.out⟩, ⟨by (with_reducible repeat (first | apply Kd.R_alloc | apply Kd.R_drewN | apply Kd.R_drew)); exact HO_171001.out⟩, ⟨by (with_reducible repeat (first | refine blk_drewN ?_ _ | refine blk_drew ?_ | refine blk_alloc ?_ _)); exact BK170.out⟩, ⟨by repeat (first | (with_reducible first | exact HB.out | apply below_alloc | apply pw_below_drewN | apply below_drew1 | refine below_set ?_ GE170.out) | exact HB.out)⟩⟩
                      · rw [if_neg c17] at H
                        exact absurd H (by simp)
                    · rw [if_neg c16] at H
                      exact absurd H (by simp)
              · rw [if_neg c14] at H
                have c14b0 : decide (x7_2 < (t162.length : Int)) = false := decide_eq_false c14
                clear c14
                replace H := Option.bind_eq_some_iff.mp H
                obtain ⟨t175, A310, H⟩ := H
                replace H : ((proto_Parse.f t175).bind fun bt176 => (if (t175.size : Int) > 5000 then (some true) else (if bt176.2.2.2 = 0 then ((proto_Same.f t162 t165 bt176.1 bt176.2.1).bind fun t185 => (if t185 = true then ((proto_Print.f bt176.1 bt176.2.1).bind fun t186 => (some (t186.toList == t175.toList))) else (some false))) else (some false)))) = some true := H
                have A31 := Aside0.mk A310
                clear A310
                replace H := Option.bind_eq_some_iff.mp H
                obtain ⟨⟨t176, t179, t182, t183⟩, A320, H⟩ := H
                replace H : (if (t175.size : Int) > 5000 then (some true) else (if t183 = 0 then ((proto_Same.f t162 t165 t176 t179).bind fun t185 => (if t185 = true then ((proto_Print.f t176 t179).bind fun t186 => (some (t186.toList == t175.toList))) else (some false))) else (some false))) = some true := H
                have A32 := Aside0.mk A320
                clear A320
                by_cases c33 : (t175.size : Int) > 5000
                · rw [if_pos c33] at H
                  have c33b0 : decide (5000 < (t175.size : Int)) = true := decide_eq_true c33
                  have c33b1 : decide (5000 < t175.size) = true := decide_eq_true (by omega)
                  clear c33
                  clear H
                  have hcz34_0 : wr.cell? ⟨gb170, 0, none⟩ = some (.slice Ao11 t162.length co11) := (blk_cell BK170.out 0).trans rfl
                  have hcz34_1 : wr.cell? ⟨gb170, 1, none⟩ = some (.slice Ao13 t165.length co13) := (blk_cell BK170.out 1).trans rfl
                  have hfz34_0 := blk_frozen BK170.out 0
                  have hfz34_1 := blk_frozen BK170.out 1
                  go_wp2_with (first | ((with_reducible refine gate_callee (f := 14) rfl ?_); refine goesL_ (some 89) rfl rfl Tryz.func14 (by kernel_rfl) rfl #[.agg #[.slice Ao11 t162.length co11, .slice Ao13 t165.length co13]] rfl (by (try simp only [List.map_toArray, List.map_cons, List.map_nil]); first | done | rfl | (simp only [List.length_drop, List.length_take]; rfl)) ?_; (with_reducible refine (proto_Print.calls _ _ t162 _ _ t165 t175 _ ?side1 ?side2 ?side3 ?side4 ?side5 A31.out).mono ?_); (case side1 => exact hG.below (by repeat (first | (with_reducible first | exact HB.out | apply below_alloc | apply pw_below_drewN | apply below_drew1 | refine below_set ?_ GE170.out) | exact HB.out))); (case side2 => repeat (first | exact (Kd.R_reads' HO_171000.out).2.2 | (with_reducible refine Kd.C_alloc ?_ _) | (with_reducible refine Kd.C_drewN ?_ _) | (with_reducible refine Kd.C_drew ?_))); (case side3 => exact (Kd.R_reads' HO_171000.out).2.1); (case side4 => repeat (first | exact (Kd.R_reads' HO_171001.out).2.2 | (with_reducible refine Kd.C_alloc ?_ _) | (with_reducible refine Kd.C_drewN ?_ _) | (with_reducible refine Kd.C_drew ?_))); (case side5 => exact (Kd.R_reads' HO_171001.out).2.1); rintro e w35 ⟨rfl, hb⟩; refine ⟨_, rfl, ?_⟩; have n0_ := Aside0.mk (Kd.R_below (by (with_reducible repeat (first | apply Kd.R_alloc | apply Kd.R_drewN | apply Kd.R_drew)); exact HO_171000.out) hb); have n1_ := Aside0.mk (Kd.R_below (by (with_reducible repeat (first | apply Kd.R_alloc | apply Kd.R_drewN | apply Kd.R_drew)); exact HO_171001.out) hb); have n2_ := Aside0.mk (blk_below (g := gb170) (o := .cells #[.slice Ao11 t162.length co11, .slice Ao13 t165.length co13] 26 (0, 0)) (by (with_reducible repeat (first | refine blk_drewN ?_ _ | refine blk_drew ?_ | refine blk_alloc ?_ _)); exact BK170.out) hb); have n3_ := Aside0.mk (below_step (by repeat (first | (with_reducible first | exact HB.out | apply below_alloc | apply pw_below_drewN | apply below_drew1 | refine below_set ?_ GE170.out) | exact HB.out)) hb); clear HO_171000; clear HO_171001; clear BK170; clear HB; have HO_171000 := n0_; have HO_171001 := n1_; have BK170 := n2_; have HB := n3_; clear n0_ n1_ n2_ n3_; (try clear hb); (try clear hb2); (try clear hk); (try clear hi)) | ((with_reducible refine gate_callee (f := 13) rfl ?_); refine goesL_ (some 92) rfl rfl Tryz.func13 (by kernel_rfl) rfl #[.string t175] rfl (by (try simp only [List.map_toArray, List.map_cons, List.map_nil]); first | done | rfl | (simp only [List.length_drop, List.length_take]; rfl)) ?_; (with_reducible refine (proto_Parse.calls t175 t176 t179 t182 t183 _ ?side1 A32.out).mono ?_); (case side1 => exact hG.below (by repeat (first | (with_reducible first | exact HB.out | apply below_alloc | apply pw_below_drewN | apply below_drew1 | refine below_set ?_ GE170.out) | exact HB.out))); rintro e w36 ⟨v177, v180, rfl, ho0, ho1, hb⟩; refine ⟨_, rfl, ?_⟩; have n0_ := Aside0.mk (Kd.R_elder' (by (with_reducible repeat (first | apply Kd.R_alloc | apply Kd.R_drewN | apply Kd.R_drew)); exact HO_171000.out) (Kd.R_base ho0) hb); have n1_ := Aside0.mk (Kd.R_elder' (by (with_reducible repeat (first | apply Kd.R_alloc | apply Kd.R_drewN | apply Kd.R_drew)); exact HO_171001.out) (Kd.R_base ho1) hb); have n2_ := Aside0.mk (Kd.R_lower (Kd.R_new' ho0 (Kd.R_lt (by (with_reducible repeat (first | apply Kd.R_alloc | apply Kd.R_drewN | apply Kd.R_drew)); exact HO_171000.out))) (below_size (by repeat (first | (with_reducible first | exact HB.out | apply below_alloc | apply pw_below_drewN | apply below_drew1 | refine below_set ?_ GE170.out) | exact HB.out)))); have n3_ := Aside0.mk (Kd.R_lower (Kd.R_new' ho1 (Kd.R_lt (by (with_reducible repeat (first | apply Kd.R_alloc | apply Kd.R_drewN | apply Kd.R_drew)); exact HO_171001.out))) (below_size (by repeat (first | (with_reducible first | exact HB.out | apply below_alloc | apply pw_below_drewN | apply below_drew1 | refine below_set ?_ GE170.out) | exact HB.out)))); have n4_ := Aside0.mk (blk_below (g := gb170) (o := .cells #[.slice Ao11 t162.length co11, .slice Ao13 t165.length co13] 26 (0, 0)) (by (with_reducible repeat (first | refine blk_drewN ?_ _ | refine blk_drew ?_ | refine blk_alloc ?_ _)); exact BK170.out) hb); have n5_ := Aside0.mk (below_step (by repeat (first | (with_reducible first | exact HB.out | apply below_alloc | apply pw_below_drewN | apply below_drew1 | refine below_set ?_ GE170.out) | exact HB.out)) hb); clear HO_171000; clear HO_171001; clear BK170; clear HB; have HO_171000 := n0_; have HO_171001 := n1_; have HO178 := n2_; have HO181 := n3_; have BK170 := n4_; have HB := n5_; clear n0_ n1_ n2_ n3_ n4_ n5_; (try clear hb); (try clear hb2); (try clear hk); (try clear hi); (try clear ho0); (try clear ho1)) | ((with_reducible refine gate_dst (N := 12) rfl ?_); (try (refine gate_guard (by rfl) ?_; dsimp only)); refine box_event ?hg (N := 12) ?hd (cs := #[.slice none 0 0, .slice none 0 0]) (t := 26) ?hr ?_; (case hd => rfl); (case hg => rfl); (case hr => first | (go_simp; done) | (go_simp; rfl)); intro gb184 hg w37 hbox hb; have n0_ := Aside0.mk (Kd.R_below (by (with_reducible repeat (first | apply Kd.R_alloc | apply Kd.R_drewN | apply Kd.R_drew)); exact HO_171000.out) hb); have n1_ := Aside0.mk (Kd.R_below (by (with_reducible repeat (first | apply Kd.R_alloc | apply Kd.R_drewN | apply Kd.R_drew)); exact HO_171001.out) hb); have n2_ := Aside0.mk (Kd.R_below (by (with_reducible repeat (first | apply Kd.R_alloc | apply Kd.R_drewN | apply Kd.R_drew)); exact HO178.out) hb); have n3_ := Aside0.mk (Kd.R_below (by (with_reducible repeat (first | apply Kd.R_alloc | apply Kd.R_drewN | apply Kd.R_drew)); exact HO181.out) hb); have n4_ := Aside0.mk (blk_below (g := gb170) (o := .cells #[.slice Ao11 t162.length co11, .slice Ao13 t165.length co13] 26 (0, 0)) (by (with_reducible repeat (first | refine blk_drewN ?_ _ | refine blk_drew ?_ | refine blk_alloc ?_ _)); exact BK170.out) hb); have n5_ := Aside0.mk (below_step (by repeat (first | (with_reducible first | exact HB.out | apply below_alloc | apply pw_below_drewN | apply below_drew1 | refine below_set ?_ GE170.out) | exact HB.out)) hb); have n6_ := Aside0.mk (hbox); have n7_ := Aside0.mk ((by rw [hg]; exact (below_size (by repeat (first | (with_reducible first | exact HB.out | apply below_alloc | apply pw_below_drewN | apply below_drew1 | refine below_set ?_ GE170.out) | exact HB.out))) : w.heap.size ≤ gb184)); have n8_ := Aside0.mk ((by rw [hg]; exact (below_size (by repeat (first | (with_reducible first | exact HB.out | apply below_alloc | apply pw_below_drewN | apply below_drew1 | refine below_set ?_ GE170.out) | exact HB.out))) : w.heap.size ≤ gb184)); have n9_ := Aside0.mk ((by rw [hg]; exact Nat.ne_of_lt (blk_lt (g := gb170) (o := .cells #[.slice Ao11 t162.length co11, .slice Ao13 t165.length co13] 26 (0, 0)) (by (with_reducible repeat (first | refine blk_drewN ?_ _ | refine blk_drew ?_ | refine blk_alloc ?_ _)); exact BK170.out)) : gb170 ≠ gb184)); have n10_ := Aside0.mk ((by rw [hg]; exact Nat.ne_of_gt (blk_lt (g := gb170) (o := .cells #[.slice Ao11 t162.length co11, .slice Ao13 t165.length co13] 26 (0, 0)) (by (with_reducible repeat (first | refine blk_drewN ?_ _ | refine blk_drew ?_ | refine blk_alloc ?_ _)); exact BK170.out)) : gb184 ≠ gb170)); clear HO_171000; clear HO_171001; clear HO178; clear HO181; clear BK170; clear HB; have HO_171000 := n0_; have HO_171001 := n1_; have HO178 := n2_; have HO181 := n3_; have BK170 := n4_; have HB := n5_; have BK184 := n6_; have GW184 := n7_; have GE184 := n8_; have NB170_184 := n9_; have NB184_170 := n10_; clear n0_ n1_ n2_ n3_ n4_ n5_ n6_ n7_ n8_ n9_ n10_; clear hb hbox hg; obtain ⟨Ao38, co38, eo38⟩ := Kd.R_slice HO178.out; subst eo38; have hnb39 := NB184_170.out; have hnc39 := NB170_184.out; have hcz40_0 : w37.cell? ⟨gb184, 0, none⟩ = some (.slice none 0 0) := (blk_cell BK184.out 0).trans rfl; have hcz40_1 : w37.cell? ⟨gb184, 1, none⟩ = some (.slice none 0 0) := (blk_cell BK184.out 1).trans rfl; have hfz40_0 := blk_frozen BK184.out 0; have hfz40_1 := blk_frozen BK184.out 1; obtain ⟨Ao41, co41, eo41⟩ := Kd.R_slice HO181.out; subst eo41))
                  go_ret
                  exact ⟨by first | rfl | (simp [] <;> rfl) | (simp [*] <;> rfl), by repeat (first | (with_reducible first | exact HB.out | apply below_alloc | apply pw_below_drewN | apply below_drew1 | refine below_set ?_ GE170.out | refine below_set ?_ GE184.out) | exact HB.out)⟩
                · rw [if_neg c33] at H
                  have c33b0 : decide (5000 < (t175.size : Int)) = false := decide_eq_false c33
                  have c33b1 : decide (5000 < t175.size) = false := decide_eq_false (by omega)
                  clear c33
                  by_cases c42 : t183 = 0
                  · rw [if_pos c42] at H
                    have c42b0 : (t183 == 0) = true := beq_iff_eq.mpr c42
                    have c42b1 : (t183 != 0) = false := bne_eq_false_iff_eq.mpr c42
                    clear c42
                    replace H := Option.bind_eq_some_iff.mp H
                    obtain ⟨t185, A430, H⟩ := H
                    replace H : (if t185 = true then ((proto_Print.f t176 t179).bind fun t186 => (some (t186.toList == t175.toList))) else (some false)) = some true := H
                    have A43 := Aside0.mk A430
                    clear A430
                    by_cases c44 : t185 = true
                    · subst c44
                      have H1 : ((proto_Print.f t176 t179).bind fun t186 => (some (t186.toList == t175.toList))) = some true := by first | (rw [if_pos rfl] at H; exact H) | rfl
                      clear H
                      have H := H1
                      clear H1
                      replace H := Option.bind_eq_some_iff.mp H
                      obtain ⟨t186, A450, H⟩ := H
                      replace H : (some (t186.toList == t175.toList)) = some true := H
                      have A45 := Aside0.mk A450
                      clear A450
                      have hv_ := Option.some.inj H
                      have hcz46_0 : wr.cell? ⟨gb170, 0, none⟩ = some (.slice Ao11 t162.length co11) := (blk_cell BK170.out 0).trans rfl
                      have hcz46_1 : wr.cell? ⟨gb170, 1, none⟩ = some (.slice Ao13 t165.length co13) := (blk_cell BK170.out 1).trans rfl
                      have hfz46_0 := blk_frozen BK170.out 0
                      have hfz46_1 := blk_frozen BK170.out 1
                      go_wp2_with (first | ((with_reducible refine gate_callee (f := 14) rfl ?_); refine goesL_ (some 89) rfl rfl Tryz.func14 (by kernel_rfl) rfl #[.agg #[.slice Ao11 t162.length co11, .slice Ao13 t165.length co13]] rfl (by (try simp only [List.map_toArray, List.map_cons, List.map_nil]); first | done | rfl | (simp only [List.length_drop, List.length_take]; rfl)) ?_; (with_reducible refine (proto_Print.calls _ _ t162 _ _ t165 t175 _ ?side1 ?side2 ?side3 ?side4 ?side5 A31.out).mono ?_); (case side1 => exact hG.below (by repeat (first | (with_reducible first | exact HB.out | apply below_alloc | apply pw_below_drewN | apply below_drew1 | refine below_set ?_ GE170.out) | exact HB.out))); (case side2 => repeat (first | exact (Kd.R_reads' HO_171000.out).2.2 | (with_reducible refine Kd.C_alloc ?_ _) | (with_reducible refine Kd.C_drewN ?_ _) | (with_reducible refine Kd.C_drew ?_))); (case side3 => exact (Kd.R_reads' HO_171000.out).2.1); (case side4 => repeat (first | exact (Kd.R_reads' HO_171001.out).2.2 | (with_reducible refine Kd.C_alloc ?_ _) | (with_reducible refine Kd.C_drewN ?_ _) | (with_reducible refine Kd.C_drew ?_))); (case side5 => exact (Kd.R_reads' HO_171001.out).2.1); rintro e w47 ⟨rfl, hb⟩; refine ⟨_, rfl, ?_⟩; have n0_ := Aside0.mk (Kd.R_below (by (with_reducible repeat (first | apply Kd.R_alloc | apply Kd.R_drewN | apply Kd.R_drew)); exact HO_171000.out) hb); have n1_ := Aside0.mk (Kd.R_below (by (with_reducible repeat (first | apply Kd.R_alloc | apply Kd.R_drewN | apply Kd.R_drew)); exact HO_171001.out) hb); have n2_ := Aside0.mk (blk_below (g := gb170) (o := .cells #[.slice Ao11 t162.length co11, .slice Ao13 t165.length co13] 26 (0, 0)) (by (with_reducible repeat (first | refine blk_drewN ?_ _ | refine blk_drew ?_ | refine blk_alloc ?_ _)); exact BK170.out) hb); have n3_ := Aside0.mk (below_step (by repeat (first | (with_reducible first | exact HB.out | apply below_alloc | apply pw_below_drewN | apply below_drew1 | refine below_set ?_ GE170.out) | exact HB.out)) hb); clear HO_171000; clear HO_171001; clear BK170; clear HB; have HO_171000 := n0_; have HO_171001 := n1_; have BK170 := n2_; have HB := n3_; clear n0_ n1_ n2_ n3_; (try clear hb); (try clear hb2); (try clear hk); (try clear hi)) | ((with_reducible refine gate_callee (f := 13) rfl ?_); refine goesL_ (some 92) rfl rfl Tryz.func13 (by kernel_rfl) rfl #[.string t175] rfl (by (try simp only [List.map_toArray, List.map_cons, List.map_nil]); first | done | rfl | (simp only [List.length_drop, List.length_take]; rfl)) ?_; (with_reducible refine (proto_Parse.calls t175 t176 t179 t182 t183 _ ?side1 A32.out).mono ?_); (case side1 => exact hG.below (by repeat (first | (with_reducible first | exact HB.out | apply below_alloc | apply pw_below_drewN | apply below_drew1 | refine below_set ?_ GE170.out) | exact HB.out))); rintro e w48 ⟨v177, v180, rfl, ho0, ho1, hb⟩; refine ⟨_, rfl, ?_⟩; have n0_ := Aside0.mk (Kd.R_elder' (by (with_reducible repeat (first | apply Kd.R_alloc | apply Kd.R_drewN | apply Kd.R_drew)); exact HO_171000.out) (Kd.R_base ho0) hb); have n1_ := Aside0.mk (Kd.R_elder' (by (with_reducible repeat (first | apply Kd.R_alloc | apply Kd.R_drewN | apply Kd.R_drew)); exact HO_171001.out) (Kd.R_base ho1) hb); have n2_ := Aside0.mk (Kd.R_lower (Kd.R_new' ho0 (Kd.R_lt (by (with_reducible repeat (first | apply Kd.R_alloc | apply Kd.R_drewN | apply Kd.R_drew)); exact HO_171000.out))) (below_size (by repeat (first | (with_reducible first | exact HB.out | apply below_alloc | apply pw_below_drewN | apply below_drew1 | refine below_set ?_ GE170.out) | exact HB.out)))); have n3_ := Aside0.mk (Kd.R_lower (Kd.R_new' ho1 (Kd.R_lt (by (with_reducible repeat (first | apply Kd.R_alloc | apply Kd.R_drewN | apply Kd.R_drew)); exact HO_171001.out))) (below_size (by repeat (first | (with_reducible first | exact HB.out | apply below_alloc | apply pw_below_drewN | apply below_drew1 | refine below_set ?_ GE170.out) | exact HB.out)))); have n4_ := Aside0.mk (blk_below (g := gb170) (o := .cells #[.slice Ao11 t162.length co11, .slice Ao13 t165.length co13] 26 (0, 0)) (by (with_reducible repeat (first | refine blk_drewN ?_ _ | refine blk_drew ?_ | refine blk_alloc ?_ _)); exact BK170.out) hb); have n5_ := Aside0.mk (below_step (by repeat (first | (with_reducible first | exact HB.out | apply below_alloc | apply pw_below_drewN | apply below_drew1 | refine below_set ?_ GE170.out) | exact HB.out)) hb); clear HO_171000; clear HO_171001; clear BK170; clear HB; have HO_171000 := n0_; have HO_171001 := n1_; have HO178 := n2_; have HO181 := n3_; have BK170 := n4_; have HB := n5_; clear n0_ n1_ n2_ n3_ n4_ n5_; (try clear hb); (try clear hb2); (try clear hk); (try clear hi); (try clear ho0); (try clear ho1)) | ((with_reducible refine gate_dst (N := 12) rfl ?_); (try (refine gate_guard (by rfl) ?_; dsimp only)); refine box_event ?hg (N := 12) ?hd (cs := #[.slice none 0 0, .slice none 0 0]) (t := 26) ?hr ?_; (case hd => rfl); (case hg => rfl); (case hr => first | (go_simp; done) | (go_simp; rfl)); intro gb184 hg w49 hbox hb; have n0_ := Aside0.mk (Kd.R_below (by (with_reducible repeat (first | apply Kd.R_alloc | apply Kd.R_drewN | apply Kd.R_drew)); exact HO_171000.out) hb); have n1_ := Aside0.mk (Kd.R_below (by (with_reducible repeat (first | apply Kd.R_alloc | apply Kd.R_drewN | apply Kd.R_drew)); exact HO_171001.out) hb); have n2_ := Aside0.mk (Kd.R_below (by (with_reducible repeat (first | apply Kd.R_alloc | apply Kd.R_drewN | apply Kd.R_drew)); exact HO178.out) hb); have n3_ := Aside0.mk (Kd.R_below (by (with_reducible repeat (first | apply Kd.R_alloc | apply Kd.R_drewN | apply Kd.R_drew)); exact HO181.out) hb); have n4_ := Aside0.mk (blk_below (g := gb170) (o := .cells #[.slice Ao11 t162.length co11, .slice Ao13 t165.length co13] 26 (0, 0)) (by (with_reducible repeat (first | refine blk_drewN ?_ _ | refine blk_drew ?_ | refine blk_alloc ?_ _)); exact BK170.out) hb); have n5_ := Aside0.mk (below_step (by repeat (first | (with_reducible first | exact HB.out | apply below_alloc | apply pw_below_drewN | apply below_drew1 | refine below_set ?_ GE170.out) | exact HB.out)) hb); have n6_ := Aside0.mk (hbox); have n7_ := Aside0.mk ((by rw [hg]; exact (below_size (by repeat (first | (with_reducible first | exact HB.out | apply below_alloc | apply pw_below_drewN | apply below_drew1 | refine below_set ?_ GE170.out) | exact HB.out))) : w.heap.size ≤ gb184)); have n8_ := Aside0.mk ((by rw [hg]; exact (below_size (by repeat (first | (with_reducible first | exact HB.out | apply below_alloc | apply pw_below_drewN | apply below_drew1 | refine below_set ?_ GE170.out) | exact HB.out))) : w.heap.size ≤ gb184)); have n9_ := Aside0.mk ((by rw [hg]; exact Nat.ne_of_lt (blk_lt (g := gb170) (o := .cells #[.slice Ao11 t162.length co11, .slice Ao13 t165.length co13] 26 (0, 0)) (by (with_reducible repeat (first | refine blk_drewN ?_ _ | refine blk_drew ?_ | refine blk_alloc ?_ _)); exact BK170.out)) : gb170 ≠ gb184)); have n10_ := Aside0.mk ((by rw [hg]; exact Nat.ne_of_gt (blk_lt (g := gb170) (o := .cells #[.slice Ao11 t162.length co11, .slice Ao13 t165.length co13] 26 (0, 0)) (by (with_reducible repeat (first | refine blk_drewN ?_ _ | refine blk_drew ?_ | refine blk_alloc ?_ _)); exact BK170.out)) : gb184 ≠ gb170)); clear HO_171000; clear HO_171001; clear HO178; clear HO181; clear BK170; clear HB; have HO_171000 := n0_; have HO_171001 := n1_; have HO178 := n2_; have HO181 := n3_; have BK170 := n4_; have HB := n5_; have BK184 := n6_; have GW184 := n7_; have GE184 := n8_; have NB170_184 := n9_; have NB184_170 := n10_; clear n0_ n1_ n2_ n3_ n4_ n5_ n6_ n7_ n8_ n9_ n10_; clear hb hbox hg; obtain ⟨Ao50, co50, eo50⟩ := Kd.R_slice HO178.out; subst eo50; have hnb51 := NB184_170.out; have hnc51 := NB170_184.out; have hcz52_0 : w49.cell? ⟨gb184, 0, none⟩ = some (.slice none 0 0) := (blk_cell BK184.out 0).trans rfl; have hcz52_1 : w49.cell? ⟨gb184, 1, none⟩ = some (.slice none 0 0) := (blk_cell BK184.out 1).trans rfl; have hfz52_0 := blk_frozen BK184.out 0; have hfz52_1 := blk_frozen BK184.out 1; obtain ⟨Ao53, co53, eo53⟩ := Kd.R_slice HO181.out; subst eo53; have hcz54_0 : w49.cell? ⟨gb170, 0, none⟩ = some (.slice Ao11 t162.length co11) := (blk_cell BK170.out 0).trans rfl; have hcz54_1 : w49.cell? ⟨gb170, 1, none⟩ = some (.slice Ao13 t165.length co13) := (blk_cell BK170.out 1).trans rfl; have hfz54_0 := blk_frozen BK170.out 0; have hfz54_1 := blk_frozen BK170.out 1) | (go_at_call 15; (with_reducible refine (proto_Same.calls _ _ t162 _ _ t165 _ _ t176 _ _ t179 true _ ?side1 ?side2 ?side3 ?side4 ?side5 ?side6 ?side7 ?side8 A43.out).mono ?_); (case side1 => refine (Kd.R_reads' (e := 34) (base := w.heap.size) (ok := fun k_ => (True ∧ some k_ ≠ (.slice Ao50 t176.length co50 : Value).ownBlock)) (n := t162.length) (c := co11) ?_).2.2; exact (by (with_reducible repeat (first | apply Kd.R_alloc | apply Kd.R_drewN | apply Kd.R_drew)); exact (Kd.R_mono (Kd.R_far (p := ⟨gb184, 1, none⟩) (Kd.R_far (p := ⟨gb184, 0, none⟩) (Kd.R_types HO_171000.out BK184.out (by decide)) (fun _ hk => hk.2) (.slice Ao50 t176.length co50)) (fun _ hk => hk.2) (.slice Ao53 t179.length co53)) (fun _ h_ => h_.1)))); (case side2 => exact (Kd.R_reads' HO_171000.out).2.1); (case side3 => refine (Kd.R_reads' (e := 68) (base := w.heap.size) (ok := fun k_ => (True ∧ some k_ ≠ (.slice Ao53 t179.length co53 : Value).ownBlock)) (n := t165.length) (c := co13) ?_).2.2; exact (by (with_reducible repeat (first | apply Kd.R_alloc | apply Kd.R_drewN | apply Kd.R_drew)); exact (Kd.R_mono (Kd.R_far (p := ⟨gb184, 1, none⟩) (Kd.R_far (p := ⟨gb184, 0, none⟩) (Kd.R_types HO_171001.out BK184.out (by decide)) (fun _ hk => hk.2) (.slice Ao50 t176.length co50)) (fun _ hk => hk.2) (.slice Ao53 t179.length co53)) (fun _ h_ => h_.1)))); (case side4 => exact (Kd.R_reads' HO_171001.out).2.1); (case side5 => refine (Kd.R_reads' (e := 34) (base := w.heap.size) (ok := fun k_ => (True ∧ some k_ ≠ (.slice Ao11 t162.length co11 : Value).ownBlock)) (n := t176.length) (c := co50) ?_).2.2; exact (by (with_reducible repeat (first | apply Kd.R_alloc | apply Kd.R_drewN | apply Kd.R_drew)); exact (Kd.R_mono (Kd.R_far (p := ⟨gb184, 1, none⟩) (Kd.R_far (p := ⟨gb184, 0, none⟩) (Kd.R_types HO178.out BK184.out (by decide)) (fun _ hk => hk.2) (.slice Ao50 t176.length co50)) (fun _ hk => hk.2) (.slice Ao53 t179.length co53)) (fun _ h_ => h_.1)))); (case side6 => exact (Kd.R_reads' HO178.out).2.1); (case side7 => refine (Kd.R_reads' (e := 68) (base := w.heap.size) (ok := fun k_ => (True ∧ some k_ ≠ (.slice Ao13 t165.length co13 : Value).ownBlock)) (n := t179.length) (c := co53) ?_).2.2; exact (by (with_reducible repeat (first | apply Kd.R_alloc | apply Kd.R_drewN | apply Kd.R_drew)); exact (Kd.R_mono (Kd.R_far (p := ⟨gb184, 1, none⟩) (Kd.R_far (p := ⟨gb184, 0, none⟩) (Kd.R_types HO181.out BK184.out (by decide)) (fun _ hk => hk.2) (.slice Ao50 t176.length co50)) (fun _ hk => hk.2) (.slice Ao53 t179.length co53)) (fun _ h_ => h_.1)))); (case side8 => exact (Kd.R_reads' HO181.out).2.1); rintro e w55 ⟨rfl, hb⟩; have n0_ := Aside0.mk (Kd.R_below (by (with_reducible repeat (first | apply Kd.R_alloc | apply Kd.R_drewN | apply Kd.R_drew)); exact (Kd.R_mono (Kd.R_far (p := ⟨gb184, 1, none⟩) (Kd.R_far (p := ⟨gb184, 0, none⟩) (Kd.R_types HO_171000.out BK184.out (by decide)) (fun _ hk => hk.2) (.slice Ao50 t176.length co50)) (fun _ hk => hk.2) (.slice Ao53 t179.length co53)) (fun _ h_ => h_.1))) hb); have n1_ := Aside0.mk (Kd.R_below (by (with_reducible repeat (first | apply Kd.R_alloc | apply Kd.R_drewN | apply Kd.R_drew)); exact (Kd.R_mono (Kd.R_far (p := ⟨gb184, 1, none⟩) (Kd.R_far (p := ⟨gb184, 0, none⟩) (Kd.R_types HO_171001.out BK184.out (by decide)) (fun _ hk => hk.2) (.slice Ao50 t176.length co50)) (fun _ hk => hk.2) (.slice Ao53 t179.length co53)) (fun _ h_ => h_.1))) hb); have n2_ := Aside0.mk (Kd.R_below (by (with_reducible repeat (first | apply Kd.R_alloc | apply Kd.R_drewN | apply Kd.R_drew)); exact (Kd.R_mono (Kd.R_far (p := ⟨gb184, 1, none⟩) (Kd.R_far (p := ⟨gb184, 0, none⟩) (Kd.R_types HO178.out BK184.out (by decide)) (fun _ hk => hk.2) (.slice Ao50 t176.length co50)) (fun _ hk => hk.2) (.slice Ao53 t179.length co53)) (fun _ h_ => h_.1))) hb); have n3_ := Aside0.mk (Kd.R_below (by (with_reducible repeat (first | apply Kd.R_alloc | apply Kd.R_drewN | apply Kd.R_drew)); exact (Kd.R_mono (Kd.R_far (p := ⟨gb184, 1, none⟩) (Kd.R_far (p := ⟨gb184, 0, none⟩) (Kd.R_types HO181.out BK184.out (by decide)) (fun _ hk => hk.2) (.slice Ao50 t176.length co50)) (fun _ hk => hk.2) (.slice Ao53 t179.length co53)) (fun _ h_ => h_.1))) hb); have n4_ := Aside0.mk (blk_below (g := gb170) (o := .cells #[.slice Ao11 t162.length co11, .slice Ao13 t165.length co13] 26 (0, 0)) (by (with_reducible repeat (first | refine blk_drewN ?_ _ | refine blk_drew ?_ | refine blk_alloc ?_ _)); refine blk_far ?_ NB170_184.out _; (with_reducible repeat (first | refine blk_drewN ?_ _ | refine blk_drew ?_ | refine blk_alloc ?_ _)); refine blk_far ?_ NB170_184.out _; (with_reducible repeat (first | refine blk_drewN ?_ _ | refine blk_drew ?_ | refine blk_alloc ?_ _)); exact BK170.out) hb); have n5_ := Aside0.mk (blk_below (g := gb184) (o := .cells #[.slice Ao50 t176.length co50, .slice Ao53 t179.length co53] 26 (0, 0)) (by (with_reducible repeat (first | refine blk_drewN ?_ _ | refine blk_drew ?_ | refine blk_alloc ?_ _)); refine blk_put (cs := #[.slice Ao50 t176.length co50, .slice none 0 0]) ?_ 1 _ rfl; (with_reducible repeat (first | refine blk_drewN ?_ _ | refine blk_drew ?_ | refine blk_alloc ?_ _)); refine blk_put (cs := #[.slice none 0 0, .slice none 0 0]) ?_ 0 _ rfl; (with_reducible repeat (first | refine blk_drewN ?_ _ | refine blk_drew ?_ | refine blk_alloc ?_ _)); exact BK184.out) hb); have n6_ := Aside0.mk (below_step (by repeat (first | (with_reducible first | exact HB.out | apply below_alloc | apply pw_below_drewN | apply below_drew1 | refine below_set ?_ GE170.out | refine below_set ?_ GE184.out) | exact HB.out)) hb); clear HO_171000; clear HO_171001; clear HO178; clear HO181; clear BK170; clear BK184; clear HB; have HO_171000 := n0_; have HO_171001 := n1_; have HO178 := n2_; have HO181 := n3_; have BK170 := n4_; have BK184 := n5_; have HB := n6_; clear n0_ n1_ n2_ n3_ n4_ n5_ n6_; (try clear hb); (try clear hb2); (try clear hk); (try clear hi); have hcz56_0 : w55.cell? ⟨gb184, 0, none⟩ = some (.slice Ao50 t176.length co50) := (blk_cell BK184.out 0).trans rfl; have hcz56_1 : w55.cell? ⟨gb184, 1, none⟩ = some (.slice Ao53 t179.length co53) := (blk_cell BK184.out 1).trans rfl; have hfz56_0 := blk_frozen BK184.out 0; have hfz56_1 := blk_frozen BK184.out 1) | (go_at_call 14; (with_reducible refine (proto_Print.calls _ _ t176 _ _ t179 t186 _ ?side1 ?side2 ?side3 ?side4 ?side5 A45.out).mono ?_); (case side1 => exact hG.below (by repeat (first | (with_reducible first | exact HB.out | apply below_alloc | apply pw_below_drewN | apply below_drew1 | refine below_set ?_ GE170.out | refine below_set ?_ GE184.out) | exact HB.out))); (case side2 => repeat (first | exact (Kd.R_reads' HO178.out).2.2 | (with_reducible refine Kd.C_alloc ?_ _) | (with_reducible refine Kd.C_drewN ?_ _) | (with_reducible refine Kd.C_drew ?_))); (case side3 => exact (Kd.R_reads' HO178.out).2.1); (case side4 => repeat (first | exact (Kd.R_reads' HO181.out).2.2 | (with_reducible refine Kd.C_alloc ?_ _) | (with_reducible refine Kd.C_drewN ?_ _) | (with_reducible refine Kd.C_drew ?_))); (case side5 => exact (Kd.R_reads' HO181.out).2.1); rintro e w57 ⟨rfl, hb⟩; have n0_ := Aside0.mk (Kd.R_below (by (with_reducible repeat (first | apply Kd.R_alloc | apply Kd.R_drewN | apply Kd.R_drew)); exact HO_171000.out) hb); have n1_ := Aside0.mk (Kd.R_below (by (with_reducible repeat (first | apply Kd.R_alloc | apply Kd.R_drewN | apply Kd.R_drew)); exact HO_171001.out) hb); have n2_ := Aside0.mk (Kd.R_below (by (with_reducible repeat (first | apply Kd.R_alloc | apply Kd.R_drewN | apply Kd.R_drew)); exact HO178.out) hb); have n3_ := Aside0.mk (Kd.R_below (by (with_reducible repeat (first | apply Kd.R_alloc | apply Kd.R_drewN | apply Kd.R_drew)); exact HO181.out) hb); have n4_ := Aside0.mk (blk_below (g := gb170) (o := .cells #[.slice Ao11 t162.length co11, .slice Ao13 t165.length co13] 26 (0, 0)) (by (with_reducible repeat (first | refine blk_drewN ?_ _ | refine blk_drew ?_ | refine blk_alloc ?_ _)); exact BK170.out) hb); have n5_ := Aside0.mk (blk_below (g := gb184) (o := .cells #[.slice Ao50 t176.length co50, .slice Ao53 t179.length co53] 26 (0, 0)) (by (with_reducible repeat (first | refine blk_drewN ?_ _ | refine blk_drew ?_ | refine blk_alloc ?_ _)); exact BK184.out) hb); have n6_ := Aside0.mk (below_step (by repeat (first | (with_reducible first | exact HB.out | apply below_alloc | apply pw_below_drewN | apply below_drew1 | refine below_set ?_ GE170.out | refine below_set ?_ GE184.out) | exact HB.out)) hb); clear HO_171000; clear HO_171001; clear HO178; clear HO181; clear BK170; clear BK184; clear HB; have HO_171000 := n0_; have HO_171001 := n1_; have HO178 := n2_; have HO181 := n3_; have BK170 := n4_; have BK184 := n5_; have HB := n6_; clear n0_ n1_ n2_ n3_ n4_ n5_ n6_; (try clear hb); (try clear hb2); (try clear hk); (try clear hi)))
                      go_ret
                      exact ⟨by first | rfl | (rw [hv_]; done) | (simp [hv_]; done) | (simp [← hv_]; done) | (simp [] <;> rfl) | (simp [*] <;> rfl), by repeat (first | (with_reducible first | exact HB.out | apply below_alloc | apply pw_below_drewN | apply below_drew1 | refine below_set ?_ GE170.out | refine below_set ?_ GE184.out) | exact HB.out)⟩
                    · replace c44 := Bool.eq_false_iff.mpr c44
                      subst c44
                      have H1 : (some false) = some true := by first | (rw [if_neg (show ¬ (false = true) by decide)] at H; exact H) | rfl
                      clear H
                      have H := H1
                      clear H1
                      exact absurd (Option.some.inj H) Bool.false_ne_true
                  · rw [if_neg c42] at H
                    have c42b0 : (t183 == 0) = false := beq_eq_false_iff_ne.mpr c42
                    have c42b1 : (t183 != 0) = true := bne_iff_ne.mpr c42
                    exact absurd (Option.some.inj H) Bool.false_ne_true
        · rw [if_neg c8] at H
          have c8b0 : (t169 == 0) = false := beq_eq_false_iff_ne.mpr c8
          have c8b1 : (t169 != 0) = true := bne_iff_ne.mpr c8
          by_cases c58 : (t162.length : Int) = 0
          · rw [if_pos c58] at H
            have c58b0 : ((t162.length : Int) == 0) = true := beq_iff_eq.mpr c58
            have c58b1 : ((t162.length : Int) != 0) = false := bne_eq_false_iff_eq.mpr c58
            clear c58
            have hv_ := Option.some.inj H
            go_wp2_with (first | ((with_reducible refine gate_callee (f := 13) rfl ?_); refine goesL_ (some 26) rfl rfl Tryz.func13 (by kernel_rfl) rfl #[.string a0] rfl (by (try simp only [List.map_toArray, List.map_cons, List.map_nil]); first | done | rfl | (simp only [List.length_drop, List.length_take]; rfl)) ?_; (with_reducible refine (proto_Parse.calls a0 t162 t165 t168 t169 _ ?side1 A7.out).mono ?_); (case side1 => exact hG.below (by repeat (first | (with_reducible first | exact HB.out | apply below_alloc | apply pw_below_drewN | apply below_drew1) | exact HB.out))); rintro e w59 ⟨v163, v166, rfl, ho0, ho1, hb⟩; refine ⟨_, rfl, ?_⟩; have n0_ := Aside0.mk (Kd.R_lower ho0 (below_size (by repeat (first | (with_reducible first | exact HB.out | apply below_alloc | apply pw_below_drewN | apply below_drew1) | exact HB.out)))); have n1_ := Aside0.mk (Kd.R_lower ho1 (below_size (by repeat (first | (with_reducible first | exact HB.out | apply below_alloc | apply pw_below_drewN | apply below_drew1) | exact HB.out)))); have n2_ := Aside0.mk (below_step (by repeat (first | (with_reducible first | exact HB.out | apply below_alloc | apply pw_below_drewN | apply below_drew1) | exact HB.out)) hb); clear HB; have HO164 := n0_; have HO167 := n1_; have HB := n2_; clear n0_ n1_ n2_; (try clear hb); (try clear hb2); (try clear hk); (try clear hi); (try clear ho0); (try clear ho1)) | ((with_reducible refine gate_dst (N := 4) rfl ?_); (try (refine gate_guard (by rfl) ?_; dsimp only)); refine box_event ?hg (N := 4) ?hd (cs := #[.slice none 0 0, .slice none 0 0]) (t := 26) ?hr ?_; (case hd => rfl); (case hg => rfl); (case hr => first | (go_simp; done) | (go_simp; rfl)); intro gb170 hg w60 hbox hb; have n0_ := Aside0.mk (Kd.R_below (by (with_reducible repeat (first | apply Kd.R_alloc | apply Kd.R_drewN | apply Kd.R_drew)); exact HO164.out) hb); have n1_ := Aside0.mk (Kd.R_below (by (with_reducible repeat (first | apply Kd.R_alloc | apply Kd.R_drewN | apply Kd.R_drew)); exact HO167.out) hb); have n2_ := Aside0.mk (below_step (by repeat (first | (with_reducible first | exact HB.out | apply below_alloc | apply pw_below_drewN | apply below_drew1) | exact HB.out)) hb); have n3_ := Aside0.mk (hbox); have n4_ := Aside0.mk ((by rw [hg]; exact (below_size (by repeat (first | (with_reducible first | exact HB.out | apply below_alloc | apply pw_below_drewN | apply below_drew1) | exact HB.out))) : w.heap.size ≤ gb170)); have n5_ := Aside0.mk ((by rw [hg]; exact (below_size (by repeat (first | (with_reducible first | exact HB.out | apply below_alloc | apply pw_below_drewN | apply below_drew1) | exact HB.out))) : w.heap.size ≤ gb170)); clear HO164; clear HO167; clear HB; have HO164 := n0_; have HO167 := n1_; have HB := n2_; have BK170 := n3_; have GW170 := n4_; have GE170 := n5_; clear n0_ n1_ n2_ n3_ n4_ n5_; clear hb hbox hg; obtain ⟨Ao61, co61, eo61⟩ := Kd.R_slice HO164.out; subst eo61; have hcz62_0 : w60.cell? ⟨gb170, 0, none⟩ = some (.slice none 0 0) := (blk_cell BK170.out 0).trans rfl; have hcz62_1 : w60.cell? ⟨gb170, 1, none⟩ = some (.slice none 0 0) := (blk_cell BK170.out 1).trans rfl; have hfz62_0 := blk_frozen BK170.out 0; have hfz62_1 := blk_frozen BK170.out 1; obtain ⟨Ao63, co63, eo63⟩ := Kd.R_slice HO167.out; subst eo63))
            go_ret
            exact ⟨by first | rfl | (rw [hv_]; done) | (simp [hv_]; done) | (simp [← hv_]; done) | (simp [] <;> rfl) | (simp [*] <;> rfl), by repeat (first | (with_reducible first | exact HB.out | apply below_alloc | apply pw_below_drewN | apply below_drew1 | refine below_set ?_ GE170.out) | exact HB.out)⟩
          · rw [if_neg c58] at H
            have c58b0 : ((t162.length : Int) == 0) = false := beq_eq_false_iff_ne.mpr c58
            have c58b1 : ((t162.length : Int) != 0) = true := bne_iff_ne.mpr c58
            have c58b2 : ¬ (t162 = []) := fun h_ => c58 (by rw [h_]; rfl)
            exact absurd (Option.some.inj H) Bool.false_ne_true
def trufflelaw07_ProtoBack.Pure : Prop := ∀ (a0 : ByteArray), a0.size ≤ 140737488351232 → ∃ k, trufflelaw07_ProtoBack.f k a0 = some true
theorem trufflelaw07_ProtoBack.walk (P : trufflelaw07_ProtoBack.Pure) (a0 : ByteArray) (w : World) (w0 : a0.size ≤ 140737488351232) (hG : GInv w) :
    Calls Tryz.prog 3 #[.string a0] w fun e w' => e = .returned (.bool true) ∧ Below w.heap.size w w' := by
  obtain ⟨k, h⟩ := P a0 w0
  refine (trufflelaw07_ProtoBack.calls k a0 w hG h).mono ?_
  rintro e w' ⟨rfl, hd⟩
  exact ⟨rfl, hd⟩
end Go.Proofs.YtddpjjhekhompaaGreatDoor.P
namespace Go.Proofs.YtddpjjhekhompaaGreatDoor.P
open Go.RowKit Go.Proofs.YtddpjjhekhompaaGreatDoorW.PrintWords Go.Proofs.YtddpjjhekhompaaGreatDoorW.PrintLast Go.Proofs.YtddpjjhekhompaaGreatDoorW.PrintMore
set_option linter.unusedVariables false
set_option linter.unusedSimpArgs false
abbrev Br := Int × List UInt8 × Int
def brT (t : TokS) : Br := (t.f0, bl t.f1, t.f2)
def sg (x : List UInt8) : Br := (3, x, 0)
def nmT (x : ByteArray) : Br := (0, bl x, 0)
def wdT (x : List UInt8) : Br := (0, x, 0)
def nuT (n : Int) : Br := (1, Lib.itoa n, n)
abbrev Fd := ByteArray × ByteArray × Int
inductive It where
  | pl (f : Fd)
  | rp (f : Fd)
  | mp (k : ByteArray) (f : Fd)
  | on (nm : ByteArray) (fs : List Fd)
  | rs (n : Int) (ns : List Int)
def valT (nm : ByteArray) (n : Int) : List Br := [nmT nm, sg [61], nuT n, sg [59]]
def fdT (f : Fd) : List Br := nmT f.1 :: valT f.2.1 f.2.2
def fdsT : List Fd → List Br
  | [] => []
  | f :: r => fdT f ++ fdsT r
def comT : List Int → List Br
  | [] => []
  | n :: r => sg [44] :: nuT n :: comT r
def itT : It → List Br
  | .pl f => fdT f
  | .rp f => wdT wRep :: fdT f
  | .mp k f => [wdT wMap, sg [60], nmT k, sg [44], nmT f.1, sg [62]] ++ valT f.2.1 f.2.2
  | .on nm fs => wdT wOneof :: nmT nm :: sg [123] :: (fdsT fs ++ [sg [125]])
  | .rs n ns => wdT wRes :: nuT n :: (comT ns ++ [sg [59]])
def itsT : List It → List Br
  | [] => []
  | x :: r => itT x ++ itsT r
def valsT : List (ByteArray × Int) → List Br
  | [] => []
  | v :: r => valT v.1 v.2 ++ valsT r
inductive Tp where
  | ms (nm : ByteArray) (its : List It)
  | en (nm : ByteArray) (vs : List (ByteArray × Int))
def tpT : Tp → List Br
  | .ms nm its => wdT wMsg :: nmT nm :: sg [123] :: (itsT its ++ [sg [125]])
  | .en nm vs => wdT wEnum :: nmT nm :: sg [123] :: (valsT vs ++ [sg [125]])
def tpsT : List Tp → List Br
  | [] => []
  | x :: r => tpT x ++ tpsT r
def stF (f : FieldS) : FieldS := ⟨f.f0, f.f1, f.f2, f.f3, f.f4, f.f5, 0⟩
def stA (m : MAcc) : MAcc := (m.1.map stF, m.2.1, m.2.2)
def stM (m : MsgS) : MsgS := ⟨m.f0, m.f1.map stF, m.f2, m.f3, 0⟩
def stV (v : ValS) : ValS := ⟨v.f0, v.f1, 0⟩
def stE (m : EnumS) : EnumS := ⟨m.f0, m.f1.map stV, 0⟩
def stFi (f : FileS) : FileS := (f.1.map stM, f.2.map stE)
def fdF (one : Int) (f : Fd) : FieldS := ⟨f.1, ⟨#[]⟩, false, one, f.2.1, f.2.2, 0⟩
def addI (m : MAcc) : It → MAcc
  | .pl f => (m.1 ++ [fdF 0 f], m.2.1, m.2.2)
  | .rp f => (m.1 ++ [⟨f.1, ⟨#[]⟩, true, 0, f.2.1, f.2.2, 0⟩], m.2.1, m.2.2)
  | .mp k f => (m.1 ++ [⟨f.1, k, false, 0, f.2.1, f.2.2, 0⟩], m.2.1, m.2.2)
  | .on nm fs => (m.1 ++ fs.map (fdF ((m.2.1.length : Int) + 1)), m.2.1 ++ [nm], m.2.2)
  | .rs n ns => (m.1, m.2.1, m.2.2 ++ n :: ns)
def addV (l : List ValS) (v : ByteArray × Int) : List ValS := l ++ [⟨v.1, v.2, 0⟩]
def addT (f : FileS) : Tp → FileS
  | .ms nm its => (f.1 ++ [⟨nm, (its.foldl addI ([], [], [])).1, (its.foldl addI ([], [], [])).2.1, (its.foldl addI ([], [], [])).2.2, 0⟩], f.2)
  | .en nm vs => (f.1, f.2 ++ [⟨nm, vs.foldl addV [], 0⟩])
def plainW (f : Fd) : Prop := bl f.1 ≠ wRep ∧ bl f.1 ≠ wOneof ∧ bl f.1 ≠ wRes
def itW : It → Prop
  | .pl f => plainW f
  | _ => True
theorem br_inv {t : TokS} {k : Int} {x : List UInt8} {n : Int} (h : brT t = (k, x, n)) : t.f0 = k ∧ bl t.f1 = x ∧ t.f2 = n := by
  unfold brT at h
  simp only [Prod.mk.injEq] at h
  exact h
theorem blP_inj {a b : ByteArray} (h : bl a = bl b) : a = b := by rw [← mk_bl a, ← mk_bl b, h]
theorem br_nm {t : TokS} {x : ByteArray} (h : brT t = nmT x) : t.f0 = 0 ∧ t.f1 = x := ⟨(br_inv h).1, blP_inj (br_inv h).2.1⟩
theorem br_sg {t : TokS} {x : List UInt8} (h : brT t = sg x) : isT 3 x t = true := by
  obtain ⟨h1, h2, _⟩ := br_inv h
  unfold isT
  rw [h1, h2]
  simp
theorem br_nu {t : TokS} {n : Int} (h : brT t = nuT n) : t.f0 = 1 ∧ t.f2 = n := ⟨(br_inv h).1, (br_inv h).2.2⟩
theorem br_wd {t : TokS} {x : List UInt8} (h : brT t = wdT x) : t.f0 = 0 ∧ isT 0 x t = true := by
  obtain ⟨h1, h2, _⟩ := br_inv h
  unfold isT
  rw [h1, h2]
  simp
theorem map_cons {c : List TokS} {b : Br} {l : List Br} (h : c.map brT = b :: l) : ∃ t c', c = t :: c' ∧ brT t = b ∧ c'.map brT = l := by
  cases c with
  | nil => cases h
  | cons t c' =>
    rw [List.map_cons] at h
    injection h with h1 h2
    exact ⟨t, c', rfl, h1, h2⟩
theorem map_app {c : List TokS} {a l : List Br} (h : c.map brT = a ++ l) : ∃ c1 c2, c = c1 ++ c2 ∧ c1.map brT = a ∧ c2.map brT = l := by
  induction a generalizing c with
  | nil => exact ⟨[], c, rfl, rfl, h⟩
  | cons b a ih =>
    obtain ⟨t, c', rfl, h1, h2⟩ := map_cons h
    obtain ⟨c1, c2, rfl, h3, h4⟩ := ih h2
    exact ⟨t :: c1, c2, rfl, by rw [List.map_cons, h1, h3], h4⟩
theorem take_run {t : TokS} {k : Int} (h : t.f0 = k) (y : List TokS) : pTake k ⟨t :: y, false⟩ = (t, ⟨y, false⟩) := by rw [pTake_cons, if_pos h]
theorem must_run {t : TokS} {x : List UInt8} (h : isT 3 x t = true) (y : List TokS) : pMust x ⟨t :: y, false⟩ = ⟨y, false⟩ := by rw [pMust_cons, if_pos h]
theorem named_run (nm : ByteArray) (n : Int) (c y : List TokS) (h : c.map brT = valT nm n) : pNamed ⟨c ++ y, false⟩ = ((nm, n), ⟨y, false⟩) := by
  obtain ⟨t1, c, rfl, h1, h⟩ := map_cons h
  obtain ⟨t2, c, rfl, h2, h⟩ := map_cons h
  obtain ⟨t3, c, rfl, h3, h⟩ := map_cons h
  obtain ⟨t4, c, rfl, h4, h⟩ := map_cons h
  obtain rfl : c = [] := List.map_eq_nil_iff.1 h
  obtain ⟨a1, b1⟩ := br_nm h1
  obtain ⟨a3, b3⟩ := br_nu h3
  unfold pNamed
  simp only [List.cons_append, List.nil_append]
  rw [take_run a1, must_run (br_sg h2), take_run a3, must_run (br_sg h4), b1, b3]
theorem field_run (one e : Int) (f : Fd) (c y : List TokS) (h : c.map brT = fdT f) : (pField e one ⟨c ++ y, false⟩).2 = ⟨y, false⟩ ∧ stF (pField e one ⟨c ++ y, false⟩).1 = fdF one f := by
  obtain ⟨t1, c, rfl, h1, h⟩ := map_cons h
  obtain ⟨a1, b1⟩ := br_nm h1
  unfold pField
  simp only [List.cons_append]
  rw [take_run a1, named_run _ _ c y h]
  exact ⟨rfl, by unfold stF fdF; rw [b1]⟩
theorem one_run (one e : Int) (f : Fd) (l : List FieldS) (c y : List TokS) (h : c.map brT = fdT f) : (pOne one l e ⟨c ++ y, false⟩).2 = ⟨y, false⟩ ∧ (pOne one l e ⟨c ++ y, false⟩).1.map stF = l.map stF ++ [fdF one f] := by
  obtain ⟨h1, h2⟩ := field_run one e f c y h
  unfold pOne
  exact ⟨h1, by simp only [List.map_append, List.map_cons, List.map_nil, h2]⟩
theorem sgn_yes {t : TokS} {x : List UInt8} (h : isT 3 x t = true) (y : List TokS) : pSign x ⟨t :: y, false⟩ = (true, ⟨y, false⟩) := by rw [pSign_cons, if_pos h]
theorem sgn_no {t : TokS} {x : List UInt8} (h : t.f0 ≠ 3) (y : List TokS) : pSign x ⟨t :: y, false⟩ = (false, ⟨t :: y, false⟩) := by
  rw [pSign_cons, if_neg (fun e => h (isT_kind e))]
theorem loop_run {α β γ : Type} (x : List UInt8) {P : α → Int → PS → α × PS} (hP : ∀ a, Good (P a)) (st : α → γ) (add : γ → β → γ) (tk : β → List Br) (ok : β → Prop)
    (hrun : ∀ b a e c y, ok b → c.map brT = tk b → (P a e ⟨c ++ y, false⟩).2 = ⟨y, false⟩ ∧ st (P a e ⟨c ++ y, false⟩).1 = add (st a) b)
    (hne : ∀ b c, c.map brT = tk b → ∃ t c', c = t :: c' ∧ t.f0 ≠ 3) :
    ∀ (l : List β) (a : α) (e : Int) (c : List TokS) (t : TokS) (y : List TokS), (∀ b ∈ l, ok b) → c.map brT = (l.map tk).flatten → isT 3 x t = true →
      (pLoopW x P a e ⟨c ++ t :: y, false⟩).2 = ⟨y, false⟩ ∧ st (pLoopW x P a e ⟨c ++ t :: y, false⟩).1 = l.foldl add (st a) := by
  intro l
  induction l with
  | nil =>
    intro a e c t y _ hc ht
    obtain rfl : c = [] := List.map_eq_nil_iff.1 hc
    rw [List.nil_append, pLoopW_eq x hP a e _ rfl, sgn_yes ht, if_pos rfl]
    exact ⟨rfl, rfl⟩
  | cons b l ih =>
    intro a e c t y hok hc ht
    rw [List.map_cons, List.flatten_cons] at hc
    obtain ⟨c1, c2, rfl, h1, h2⟩ := map_app hc
    obtain ⟨t1, c1', h3, h4⟩ := hne b c1 h1
    obtain ⟨g1, g2⟩ := hrun b a e c1 (c2 ++ t :: y) (hok b (by simp)) h1
    have e1 : pSign x ⟨c1 ++ (c2 ++ t :: y), false⟩ = (false, ⟨c1 ++ (c2 ++ t :: y), false⟩) := by rw [h3]; exact sgn_no h4 _
    rw [List.append_assoc, pLoopW_eq x hP a e _ rfl, e1, if_neg Bool.false_ne_true, g1]
    obtain ⟨k1, k2⟩ := ih (P a e ⟨c1 ++ (c2 ++ t :: y), false⟩).1 e c2 t y (fun b hb => hok b (by simp [hb])) h2 ht
    refine ⟨k1, ?_⟩
    rw [k2, g2]
    rfl
theorem fdsT_flat : ∀ l : List Fd, fdsT l = (l.map fdT).flatten
  | [] => rfl
  | f :: r => by rw [fdsT, List.map_cons, List.flatten_cons, fdsT_flat r]
theorem itsT_flat : ∀ l : List It, itsT l = (l.map itT).flatten
  | [] => rfl
  | f :: r => by rw [itsT, List.map_cons, List.flatten_cons, itsT_flat r]
theorem valsT_flat : ∀ l : List (ByteArray × Int), valsT l = (l.map fun v => valT v.1 v.2).flatten
  | [] => rfl
  | f :: r => by rw [valsT, List.map_cons, List.flatten_cons, valsT_flat r]
theorem fold_snoc {α β : Type} (g : α → β) : ∀ (l : List α) (a : List β), l.foldl (fun a x => a ++ [g x]) a = a ++ l.map g
  | [], a => by simp
  | x :: r, a => by rw [List.foldl_cons, fold_snoc g r]; simp
theorem nums_run : ∀ (ns : List Int) (n : Int) (a : List Int) (c : List TokS) (t : TokS) (y : List TokS), c.map brT = nuT n :: comT ns → isT 3 [59] t = true → pNumM a ⟨c ++ t :: y, false⟩ = (a ++ n :: ns, ⟨y, false⟩) := by
  intro ns
  induction ns with
  | nil =>
    intro n a c t y hc ht
    obtain ⟨t1, c, rfl, h1, h⟩ := map_cons hc
    obtain rfl : c = [] := List.map_eq_nil_iff.1 h
    obtain ⟨a1, b1⟩ := br_nu h1
    have hn : ¬ isT 3 [44] t = true := by
      unfold isT at ht ⊢
      intro h
      simp only [Bool.and_eq_true, beq_iff_eq] at ht h
      rw [ht.2] at h
      exact absurd h.2 (by decide)
    rw [List.cons_append, List.nil_append, pNumM_two _ _ _ _ a1, if_neg hn, if_pos ht, b1]
  | cons m ns ih =>
    intro n a c t y hc ht
    obtain ⟨t1, c, rfl, h1, h⟩ := map_cons hc
    obtain ⟨t2, c, rfl, h2, h⟩ := map_cons h
    obtain ⟨a1, b1⟩ := br_nu h1
    rw [List.cons_append, List.cons_append, pNumM_two _ _ _ _ a1, if_pos (br_sg h2), ih m _ c t y h ht, b1]
    simp
theorem is_no {k k' : Int} {x : List UInt8} {t : TokS} (h : t.f0 = k') (hk : k ≠ k') : isT k x t = false := by
  unfold isT
  rw [h]
  simp [hk.symm]
theorem is_ne {k : Int} {x z : List UInt8} {t : TokS} (h : bl t.f1 = z) (hk : z ≠ x) : isT k x t = false := by
  unfold isT
  rw [h]
  simp [hk]
theorem isw (k : Int) (x : List UInt8) (t : TokS) (r : List TokS) : pIs 0 k x ⟨t :: r, false⟩ = isT k x t := rfl
theorem item_run (it : It) (m : MAcc) (e : Int) (c y : List TokS) (hw : itW it) (h : c.map brT = itT it) : (pItem m e ⟨c ++ y, false⟩).2 = ⟨y, false⟩ ∧ stA (pItem m e ⟨c ++ y, false⟩).1 = addI (stA m) it := by
  cases it with
  | pl f =>
    obtain ⟨w1, w2, w3⟩ := hw
    obtain ⟨t1, c', rfl, h1, h2⟩ := map_cons h
    obtain ⟨t2, c2, rfl, h3, h4⟩ := map_cons h2
    obtain ⟨_, hb, _⟩ := br_inv h1
    obtain ⟨a2, _⟩ := br_nm h3
    rw [pItem_eq, List.cons_append, List.cons_append, isw, isw, isw, isMap_cons, is_ne hb w1, is_ne hb w2, is_ne hb w3, is_no a2 (by decide), Bool.and_false]
    simp only [Bool.false_eq_true, if_false]
    obtain ⟨g1, g2⟩ := field_run 0 e f (t1 :: t2 :: c2) y h
    unfold pPlain
    refine ⟨g1, ?_⟩
    unfold stA addI
    simp only [List.map_append, List.map_cons, List.map_nil]
    rw [show pField e 0 ⟨t1 :: t2 :: (c2 ++ y), false⟩ = pField e 0 ⟨t1 :: t2 :: c2 ++ y, false⟩ from rfl, g2]
  | rp f =>
    obtain ⟨t1, c', rfl, h1, h2⟩ := map_cons h
    obtain ⟨a1, b1⟩ := br_wd h1
    obtain ⟨g1, g2⟩ := field_run 0 e f c' y h2
    rw [pItem_eq, List.cons_append, isw, b1, if_pos rfl]
    unfold pRep
    rw [take_run a1]
    refine ⟨g1, ?_⟩
    unfold stA addI
    simp only [List.map_append, List.map_cons, List.map_nil]
    have e2 : ∀ (g : FieldS) (q : Int), stF (repF g q) = ⟨(stF g).f0, (stF g).f1, true, (stF g).f3, (stF g).f4, (stF g).f5, 0⟩ := fun _ _ => rfl
    rw [e2, g2]
    rfl
  | mp k f =>
    obtain ⟨t1, c, rfl, h1, h⟩ := map_cons h
    obtain ⟨t2, c, rfl, h2, h⟩ := map_cons h
    obtain ⟨t3, c, rfl, h3, h⟩ := map_cons h
    obtain ⟨t4, c, rfl, h4, h⟩ := map_cons h
    obtain ⟨t5, c, rfl, h5, h⟩ := map_cons h
    obtain ⟨t6, c, rfl, h6, h⟩ := map_cons h
    obtain ⟨a1, b1⟩ := br_wd h1
    obtain ⟨_, hb, _⟩ := br_inv h1
    obtain ⟨a3, b3⟩ := br_nm h3
    obtain ⟨a5, b5⟩ := br_nm h5
    simp only [List.cons_append]
    rw [pItem_eq, isw, isw, isw, isMap_cons, is_ne hb (by decide), is_ne hb (by decide), is_ne hb (by decide), b1, br_sg h2]
    simp only [Bool.false_eq_true, if_false, Bool.and_self, if_true]
    unfold pMap pMapT
    rw [take_run a1, must_run (br_sg h2), take_run a3, must_run (br_sg h4), take_run a5, must_run (br_sg h6)]
    simp only
    rw [named_run _ _ c y h]
    refine ⟨rfl, ?_⟩
    unfold stA addI
    simp only [List.map_append, List.map_cons, List.map_nil, stF, b3, b5]
  | on nm fs =>
    obtain ⟨t1, c, rfl, h1, h⟩ := map_cons h
    obtain ⟨t2, c, rfl, h2, h⟩ := map_cons h
    obtain ⟨t3, c, rfl, h3, h⟩ := map_cons h
    obtain ⟨c1, c2, rfl, h4, h⟩ := map_app h
    obtain ⟨t4, c2, rfl, h5, h⟩ := map_cons h
    obtain rfl : c2 = [] := List.map_eq_nil_iff.1 h
    obtain ⟨a1, b1⟩ := br_wd h1
    obtain ⟨_, hb, _⟩ := br_inv h1
    obtain ⟨a2, b2⟩ := br_nm h2
    rw [fdsT_flat] at h4
    simp only [List.cons_append, List.append_assoc, List.nil_append]
    rw [pItem_eq, isw, isw, is_ne hb (by decide), b1]
    simp only [Bool.false_eq_true, if_false, if_true]
    unfold pOneof
    rw [take_run a1, take_run a2, must_run (br_sg h3)]
    obtain ⟨g1, g2⟩ := loop_run [125] (P := pOne ((m.2.1.length : Int) + 1)) (one_good _) (List.map stF) (fun l f => l ++ [fdF ((m.2.1.length : Int) + 1) f]) fdT (fun _ => True) (fun b a e c y _ hc => one_run _ e b a c y hc)
      (fun b c hc => by
        obtain ⟨t, c', rfl, h1, _⟩ := map_cons hc
        exact ⟨t, c', rfl, by rw [(br_nm h1).1]; decide⟩) fs m.1 e c1 t4 y (fun _ _ => trivial) h4 (br_sg h5)
    refine ⟨g1, ?_⟩
    unfold stA addI
    simp only
    rw [g2, fold_snoc, b2]
  | rs n ns =>
    obtain ⟨t1, c, rfl, h1, h⟩ := map_cons h
    obtain ⟨a1, b1⟩ := br_wd h1
    obtain ⟨_, hb, _⟩ := br_inv h1
    rw [show nuT n :: (comT ns ++ [sg [59]]) = (nuT n :: comT ns) ++ [sg [59]] from rfl] at h
    obtain ⟨c1, c2, rfl, h4, h⟩ := map_app h
    obtain ⟨t4, c2, rfl, h5, h⟩ := map_cons h
    obtain rfl : c2 = [] := List.map_eq_nil_iff.1 h
    simp only [List.cons_append, List.append_assoc, List.nil_append]
    rw [pItem_eq, isw, isw, isw, is_ne hb (by decide), is_ne hb (by decide), b1]
    simp only [Bool.false_eq_true, if_false, if_true]
    have hr := nums_run ns n m.2.2 c1 t4 y h4 (br_sg h5)
    unfold pRes
    rw [take_run a1]
    have e1 : (pNums (((⟨c1 ++ t4 :: y, false⟩ : PS).r.length) + 1) m.2.2 ⟨c1 ++ t4 :: y, false⟩).1 = m.2.2 ++ n :: ns := congrArg Prod.fst hr
    have e2 : pMust [59] (pNums (((⟨c1 ++ t4 :: y, false⟩ : PS).r.length) + 1) m.2.2 ⟨c1 ++ t4 :: y, false⟩).2 = ⟨y, false⟩ := congrArg Prod.snd hr
    refine ⟨e2, ?_⟩
    unfold stA addI
    simp only
    rw [e1]
theorem item_first (it : It) (c : List TokS) (h : c.map brT = itT it) : ∃ t c', c = t :: c' ∧ t.f0 ≠ 3 := by
  cases it <;> (obtain ⟨t, c', rfl, h1, _⟩ := map_cons h; exact ⟨t, c', rfl, by rw [(br_inv h1).1]; decide⟩)
theorem val_run (v : ByteArray × Int) (l : List ValS) (e : Int) (c y : List TokS) (h : c.map brT = valT v.1 v.2) : (pVal l e ⟨c ++ y, false⟩).2 = ⟨y, false⟩ ∧ (pVal l e ⟨c ++ y, false⟩).1.map stV = addV (l.map stV) v := by
  unfold pVal
  rw [named_run _ _ c y h]
  exact ⟨rfl, by unfold addV; simp only [List.map_append, List.map_cons, List.map_nil, stV]⟩
def tpW : Tp → Prop
  | .ms _ its => ∀ it ∈ its, itW it
  | .en _ _ => True
theorem tp_run (x : Tp) (f : FileS) (e : Int) (c y : List TokS) (hw : tpW x) (h : c.map brT = tpT x) : (pTop1 f e ⟨c ++ y, false⟩).2 = ⟨y, false⟩ ∧ stFi (pTop1 f e ⟨c ++ y, false⟩).1 = addT (stFi f) x := by
  cases x with
  | ms nm its =>
    obtain ⟨t1, c, rfl, h1, h⟩ := map_cons h
    obtain ⟨t2, c, rfl, h2, h⟩ := map_cons h
    obtain ⟨t3, c, rfl, h3, h⟩ := map_cons h
    obtain ⟨c1, c2, rfl, h4, h⟩ := map_app h
    obtain ⟨t4, c2, rfl, h5, h⟩ := map_cons h
    obtain rfl : c2 = [] := List.map_eq_nil_iff.1 h
    obtain ⟨a1, b1⟩ := br_wd h1
    obtain ⟨a2, b2⟩ := br_nm h2
    rw [itsT_flat] at h4
    simp only [List.cons_append, List.append_assoc, List.nil_append]
    unfold pTop1
    rw [isw, b1, if_pos rfl]
    unfold pMsg
    rw [take_run a1, take_run a2, must_run (br_sg h3)]
    obtain ⟨g1, g2⟩ := loop_run [125] (P := pItem) item_good stA addI itT itW (fun b a e c y hb hc => item_run b a e c y hb hc) item_first its ([], [], []) e c1 t4 y hw h4 (br_sg h5)
    refine ⟨g1, ?_⟩
    have e0 : stA ([], [], []) = ([], [], []) := rfl
    rw [e0] at g2
    unfold stFi addT
    simp only [List.map_append, List.map_cons, List.map_nil, stM]
    rw [← g2, b2]
    rfl
  | en nm vs =>
    obtain ⟨t1, c, rfl, h1, h⟩ := map_cons h
    obtain ⟨t2, c, rfl, h2, h⟩ := map_cons h
    obtain ⟨t3, c, rfl, h3, h⟩ := map_cons h
    obtain ⟨c1, c2, rfl, h4, h⟩ := map_app h
    obtain ⟨t4, c2, rfl, h5, h⟩ := map_cons h
    obtain rfl : c2 = [] := List.map_eq_nil_iff.1 h
    obtain ⟨a1, b1⟩ := br_wd h1
    obtain ⟨_, hb, _⟩ := br_inv h1
    obtain ⟨a2, b2⟩ := br_nm h2
    rw [valsT_flat] at h4
    simp only [List.cons_append, List.append_assoc, List.nil_append]
    unfold pTop1
    rw [isw, isw, is_ne hb (by decide), b1, if_neg Bool.false_ne_true, if_pos rfl]
    unfold pEnum
    rw [take_run a1, take_run a2, must_run (br_sg h3)]
    obtain ⟨g1, g2⟩ := loop_run [125] (P := pVal) val_good (List.map stV) addV (fun v => valT v.1 v.2) (fun _ => True) (fun b a e c y _ hc => val_run b a e c y hc)
      (fun b c hc => by
        obtain ⟨t, c', rfl, h1, _⟩ := map_cons hc
        exact ⟨t, c', rfl, by rw [(br_nm h1).1]; decide⟩) vs [] e c1 t4 y (fun _ _ => trivial) h4 (br_sg h5)
    refine ⟨g1, ?_⟩
    unfold stFi addT
    simp only [List.map_append, List.map_cons, List.map_nil, stE]
    rw [g2, b2]
    rfl
theorem tps_run : ∀ (l : List Tp) (f : FileS) (e : Int) (c : List TokS) (k : Nat), (∀ x ∈ l, tpW x) → c.map brT = tpsT l → c.length < k → (pTop k f e ⟨c, false⟩).2 = ⟨[], false⟩ ∧ stFi (pTop k f e ⟨c, false⟩).1 = l.foldl addT (stFi f) := by
  intro l
  induction l with
  | nil =>
    intro f e c k _ hc _
    obtain rfl : c = [] := List.map_eq_nil_iff.1 hc
    rw [pTop_nil]
    exact ⟨rfl, rfl⟩
  | cons x l ih =>
    intro f e c k hw hc hk
    obtain ⟨c1, c2, rfl, h1, h2⟩ := map_app hc
    obtain ⟨k, rfl⟩ : ∃ j, k = j + 1 := ⟨k - 1, by omega⟩
    have hne : ∃ t c', c1 = t :: c' := by
      cases x <;> (obtain ⟨t, c', rfl, _, _⟩ := map_cons h1; exact ⟨t, c', rfl⟩)
    obtain ⟨g1, g2⟩ := tp_run x f e c1 c2 (hw x (by simp)) h1
    obtain ⟨t, c', rfl⟩ := hne
    rw [List.cons_append, pTop_step]
    rw [List.cons_append] at g1 g2
    rw [g1]
    obtain ⟨k1, k2⟩ := ih (pTop1 f e ⟨t :: (c' ++ c2), false⟩).1 e c2 k (fun x hx => hw x (by simp [hx])) h2 (by simp at hk; omega)
    refine ⟨k1, ?_⟩
    rw [k2, g2]
    rfl
end Go.Proofs.YtddpjjhekhompaaGreatDoor.P
namespace Go.Proofs.YtddpjjhekhompaaGreatDoor.P
open Go.RowKit Go.Proofs.YtddpjjhekhompaaGreatDoorW.PrintWords Go.Proofs.YtddpjjhekhompaaGreatDoorW.PrintLast Go.Proofs.YtddpjjhekhompaaGreatDoorW.PrintMore
set_option linter.unusedVariables false
set_option linter.unusedSimpArgs false
def sepL (b : List UInt8) : Prop := ∀ c r, b = c :: r → nameU c = false ∧ numU c = false
theorem takeWhile_sep (p : UInt8 → Bool) (b : List UInt8) (hb : ∀ c r, b = c :: r → p c = false) (l : List UInt8) : (l ++ b).takeWhile p = l.takeWhile p := by
  induction l with
  | nil => cases b with
    | nil => rfl
    | cons c r => simp [hb c r rfl]
  | cons x r ih => simp only [List.cons_append, List.takeWhile_cons, ih]
theorem runN_sep (p : UInt8 → Bool) (b : List UInt8) (hb : ∀ c r, b = c :: r → p c = false) (x : UInt8) (r : List UInt8) : runN p (x :: (r ++ b)) = runN p (x :: r) := by
  simp only [runN]
  rw [takeWhile_sep p b hb]
theorem run_take (p : UInt8 → Bool) (c : UInt8) (r : List UInt8) : (c :: r).take (runN p (c :: r)) = c :: r.takeWhile p := by
  simp only [runN]
  rw [Nat.add_comm, List.take_succ_cons]
  congr 1
  exact (List.prefix_iff_eq_take.1 (List.takeWhile_prefix p)).symm
theorem lex1_sep (a b : List UInt8) (hb : sepL b) (y) (h : lex1 a = some y) : lex1 (a ++ b) = some y := by
  cases a with
  | nil => cases h
  | cons c r =>
    have hn : ∀ c r, b = c :: r → nameU c = false := fun c r e => (hb c r e).1
    have hu : ∀ c r, b = c :: r → numU c = false := fun c r e => (hb c r e).2
    rw [List.cons_append, lex1_cons, run_take, run_take, takeWhile_sep nameU b hn, takeWhile_sep numU b hu, runN_sep nameU b hn, runN_sep numU b hu, ← run_take, ← run_take]
    rw [lex1_cons] at h
    split at h
    · cases h
    · rename_i h4
      rw [if_neg h4]
      split at h
      · rename_i h0; rw [if_pos h0]; exact h
      · rename_i h0
        rw [if_neg h0]
        split at h
        · rename_i h1; rw [if_pos h1]; exact h
        · rename_i h1
          rw [if_neg h1]
          split at h
          · rename_i h2
            rw [if_pos h2]
            obtain ⟨⟨t', n'⟩, h3, h4⟩ := Option.map_eq_some_iff.mp h
            rw [strL_app b _ _ r t' n' h3 (by simp), ← h4]; rfl
          · rename_i h2
            rw [if_neg h2]; exact h
theorem takeWhile_twice (p : UInt8 → Bool) (l : List UInt8) : (l.takeWhile p).takeWhile p = l.takeWhile p := by
  induction l with
  | nil => rfl
  | cons x r ih =>
    by_cases hx : p x = true
    · simp [List.takeWhile_cons, hx, ih]
    · simp [List.takeWhile_cons, hx]
def selfT (kd : Int) (t : List UInt8) (v : Int) : Prop := (kd = 0 ∨ kd = 1) ∧ lex1 t = some (kd, t, v, t.length)
theorem runN_self (p : UInt8 → Bool) (c : UInt8) (r : List UInt8) : runN p (c :: r.takeWhile p) = (c :: r.takeWhile p).length := by
  simp only [runN, takeWhile_twice, List.length_cons]
  omega
theorem lex1_tok (l : List UInt8) (kd : Int) (t : List UInt8) (v : Int) (n : Nat) (h : lex1 l = some (kd, t, v, n)) :
    (selfT kd t v ∧ t.length ≤ l.length) ∨ (kd = 2 ∧ v = 0) ∨ (kd = 3 ∧ v = 0 ∧ t.length = 1) := by
  cases l with
  | nil => cases h
  | cons c r =>
    rw [lex1_cons] at h
    split at h
    · cases h
    · rename_i h4
      split at h
      · rename_i h0
        simp only [Option.some.injEq, Prod.mk.injEq] at h
        obtain ⟨rfl, rfl, rfl, rfl⟩ := h
        refine .inl ⟨⟨.inl rfl, ?_⟩, by rw [List.length_take]; omega⟩
        rw [run_take, lex1_cons, if_neg h4, if_pos h0, runN_self, List.take_length]
      · rename_i h0
        split at h
        · rename_i h1
          split at h
          · rename_i hok
            simp only [Option.some.injEq, Prod.mk.injEq] at h
            obtain ⟨rfl, rfl, rfl, rfl⟩ := h
            refine .inl ⟨⟨.inr rfl, ?_⟩, by rw [List.length_take]; omega⟩
            rw [run_take] at hok ⊢
            rw [lex1_cons, if_neg h4, if_neg h0, if_pos h1, runN_self, List.take_length, if_pos hok]
          · cases h
        · rename_i h1
          split at h
          · obtain ⟨⟨t', n'⟩, h3, h5⟩ := Option.map_eq_some_iff.mp h
            simp only [Prod.mk.injEq] at h5
            obtain ⟨rfl, rfl, rfl, rfl⟩ := h5
            exact .inr (.inl ⟨rfl, rfl⟩)
          · simp only [Option.some.injEq, Prod.mk.injEq] at h
            obtain ⟨rfl, rfl, rfl, rfl⟩ := h
            exact .inr (.inr ⟨rfl, rfl, rfl⟩)
theorem skip_tok (c : UInt8) (r : List UInt8) (h : ofK (c.toNat : Int) ≠ 4) : skipN false (c :: r) = 0 := by
  rw [skipN_f]
  have hb : blankB c = false := by
    unfold blankB
    have e1 : (c == 32) = false := by rw [beq_eq_false_iff_ne]; rintro rfl; exact h (by decide)
    have e2 : (c == 9) = false := by rw [beq_eq_false_iff_ne]; rintro rfl; exact h (by decide)
    have e3 : (c == 10) = false := by rw [beq_eq_false_iff_ne]; rintro rfl; exact h (by decide)
    have e4 : (c == 13) = false := by rw [beq_eq_false_iff_ne]; rintro rfl; exact h (by decide)
    rw [e1, e2, e3, e4]; rfl
  rw [hb, if_neg (by simp), if_neg]
  rintro ⟨rfl, _⟩
  exact h (by decide)
theorem lex1_first (a : List UInt8) (y) (h : lex1 a = some y) : ∃ c r, a = c :: r ∧ ofK (c.toNat : Int) ≠ 4 := by
  cases a with
  | nil => cases h
  | cons c r =>
    refine ⟨c, r, rfl, fun e => ?_⟩
    rw [lex1_cons, if_pos e] at h
    cases h
theorem scan_one (m p : Nat) (a b : List UInt8) (kd : Int) (t : List UInt8) (v : Int) (n : Nat) (h : lex1 a = some (kd, t, v, n)) (hn : n = a.length) (hb : sepL b) :
    scan m p (a ++ b) = if m = 0 then .inr (p, 2) else preE [⟨kd, ⟨t.toArray⟩, v, p⟩] (scan (m - 1) (p + a.length) b) := by
  obtain ⟨c, r, rfl, hc⟩ := lex1_first a _ h
  have h2 := lex1_sep (c :: r) b hb _ h
  unfold scan
  rw [List.cons_append, skip_tok c (r ++ b) hc, Nat.add_zero, List.drop_zero, lx_cons]
  rw [List.cons_append] at h2
  rw [h2]
  simp only
  rw [← List.cons_append, hn, List.drop_left]
  rfl
theorem scan_blank (m p : Nat) (c : UInt8) (a : List UInt8) (hc : blankB c = true) : scan m p (c :: a) = scan m (p + 1) a := by
  unfold scan
  rw [skipN_f, if_pos hc, Nat.add_comm 1, List.drop_succ_cons, show p + (skipN false a + 1) = p + 1 + skipN false a from by omega]
theorem scan_nil (m p : Nat) : scan m p [] = .inl [] := rfl
theorem scan_cases (m p : Nat) (a : List UInt8) (ts : List TokS) (h : scan m p a = .inl ts) : ts = [] ∨ ∃ (k : Nat) (kd : Int) (t : List UInt8) (v : Int) (n : Nat) (us : List TokS),
    lex1 (a.drop k) = some (kd, t, v, n) ∧ 1 ≤ n ∧ k + n ≤ a.length ∧ 0 < m ∧ scan (m - 1) (p + k + n) (a.drop (k + n)) = .inl us ∧ ts = ⟨kd, ⟨t.toArray⟩, v, ((p + k : Nat) : Int)⟩ :: us := by
  unfold scan at h
  have hk := skipN_le false a
  generalize skipN false a = k at h hk
  cases hl : a.drop k with
  | nil => rw [hl, lx_nil] at h; simp only [Sum.inl.injEq] at h; exact .inl h.symm
  | cons c r =>
    have hz := congrArg List.length hl
    rw [List.length_drop, List.length_cons] at hz
    rw [hl, lx_cons] at h
    cases hx : lex1 (c :: r) with
    | none => rw [hx] at h; cases h
    | some y =>
      obtain ⟨kd, t, v, n⟩ := y
      obtain ⟨n1, n2⟩ := lex1_le _ _ _ _ _ hx
      rw [List.length_cons] at n2
      rw [hx] at h
      simp only at h
      split at h
      · cases h
      · rename_i hm
        cases hs : scan (m - 1) (p + k + n) ((c :: r).drop n) with
        | inr e => rw [hs] at h; cases h
        | inl us =>
          rw [hs] at h
          simp only [preE, Sum.inl.injEq] at h
          refine .inr ⟨k, kd, t, v, n, us, by rw [hl]; exact hx, n1, by omega, by omega, ?_, ?_⟩
          · rw [← List.drop_drop, hl]; exact hs
          · rw [← h]; rfl
def tokOk (t : TokS) : Prop := selfT t.f0 (bl t.f1) t.f2 ∨ (t.f0 = 2 ∧ t.f2 = 0) ∨ (t.f0 = 3 ∧ t.f2 = 0 ∧ (bl t.f1).length = 1)
def incT : Int → List TokS → Prop
  | _, [] => True
  | b, t :: ts => b ≤ t.f3 ∧ incT (t.f3 + 1) ts
theorem incT_mono : ∀ (ts : List TokS) (b c : Int), c ≤ b → incT b ts → incT c ts
  | [], _, _, _, _ => trivial
  | _ :: _, _, _, h, ⟨h1, h2⟩ => ⟨by omega, h2⟩
theorem scan_facts : ∀ (d m p : Nat) (a : List UInt8) (ts : List TokS), a.length ≤ d → scan m p a = .inl ts →
    (∀ t ∈ ts, tokOk t ∧ (selfT t.f0 (bl t.f1) t.f2 → t.f1.size ≤ a.length) ∧ t.f3 < p + a.length) ∧ incT p ts := by
  intro d
  induction d with
  | zero =>
    intro m p a ts hd h
    obtain rfl : a = [] := List.length_eq_zero_iff.mp (by omega)
    rw [scan_nil] at h
    injection h with h
    subst h
    exact ⟨fun t ht => (by cases ht), trivial⟩
  | succ d ih =>
    intro m p a ts hd h
    rcases scan_cases m p a ts h with rfl | ⟨k, kd, t, v, n, us, hx, hn, hk, hm, hs, rfl⟩
    · exact ⟨fun t ht => (by cases ht), trivial⟩
    · obtain ⟨g1, g2⟩ := ih _ _ _ _ (by rw [List.length_drop]; omega) hs
      refine ⟨fun u hu => ?_, ?_⟩
      · rcases List.mem_cons.1 hu with rfl | hu
        · have hl := lex1_tok _ _ _ _ _ hx
          refine ⟨Or.elim hl (fun hl => .inl hl.1) (fun hl => .inr hl), fun hself => ?_, by show ((p + k : Nat) : Int) < _; omega⟩
          · show (⟨t.toArray⟩ : ByteArray).size ≤ a.length
            rw [← bl_length]
            show t.length ≤ a.length
            have h9 : kd = 0 ∨ kd = 1 := hself.1
            rcases hl with hl | hl | hl
            · have := hl.2; rw [List.length_drop] at this; omega
            · exfalso; have := hl.1; omega
            · exfalso; have := hl.1; omega
        · obtain ⟨q1, q2, q3⟩ := g1 u hu
          rw [List.length_drop] at q2 q3
          exact ⟨q1, fun hh => by have := q2 hh; omega, by omega⟩
      · refine ⟨by show (p : Int) ≤ ((p + k : Nat) : Int); omega, incT_mono us _ _ ?_ g2⟩
        show ((p + k : Nat) : Int) + 1 ≤ ((p + k + n : Nat) : Int)
        omega
end Go.Proofs.YtddpjjhekhompaaGreatDoor.P
namespace Go.Proofs.YtddpjjhekhompaaGreatDoor.P
open Go.RowKit Go.Proofs.YtddpjjhekhompaaGreatDoorW.PrintWords Go.Proofs.YtddpjjhekhompaaGreatDoorW.PrintLast Go.Proofs.YtddpjjhekhompaaGreatDoorW.PrintMore
set_option linter.unusedVariables false
set_option linter.unusedSimpArgs false
def NmOk (x : ByteArray) : Prop := lex1 (bl x) = some (0, bl x, 0, (bl x).length) ∧ x.size ≤ 1500
def NuOk (n : Int) : Prop := rngI n ∧ (Lib.itoa n).length ≤ 1500
def TkOk (t : TokS) : Prop := tokOk t ∧ (selfT t.f0 (bl t.f1) t.f2 → t.f1.size ≤ 1500)
theorem lex_val (l : List UInt8) (k : Int) (t : List UInt8) (v : Int) (n : Nat) (h : lex1 l = some (k, t, v, n)) : (k = 0 → v = 0) ∧ (k = 1 → numOk t = true ∧ v = numV t) := by
  cases l with
  | nil => cases h
  | cons b r =>
    rw [lex1_cons] at h
    split at h
    · cases h
    · split at h
      · simp only [Option.some.injEq, Prod.mk.injEq] at h
        obtain ⟨rfl, _, rfl, _⟩ := h
        exact ⟨fun _ => rfl, fun h => absurd h (by decide)⟩
      · split at h
        · split at h
          · rename_i hk
            simp only [Option.some.injEq, Prod.mk.injEq] at h
            obtain ⟨rfl, rfl, rfl, _⟩ := h
            exact ⟨fun h => absurd h (by decide), fun _ => ⟨hk, rfl⟩⟩
          · cases h
        · split at h
          · obtain ⟨y, _, h2⟩ := Option.map_eq_some_iff.1 h
            simp only [Prod.mk.injEq] at h2
            obtain ⟨rfl, _⟩ := h2
            exact ⟨fun h => absurd h (by decide), fun h => absurd h (by decide)⟩
          · simp only [Option.some.injEq, Prod.mk.injEq] at h
            obtain ⟨rfl, _⟩ := h
            exact ⟨fun h => absurd h (by decide), fun h => absurd h (by decide)⟩
theorem tk_nm {t : TokS} (h : TkOk t) (h0 : t.f0 = 0) : NmOk t.f1 := by
  obtain ⟨h1, h2⟩ := h
  rcases h1 with h1 | h1 | h1
  · have h3 := h1.2
    have h4 := (lex_val _ _ _ _ _ h3).1 h0
    rw [h0, h4] at h3
    exact ⟨h3, h2 h1⟩
  · exact absurd (h1.1.symm.trans h0) (by decide)
  · exact absurd (h1.1.symm.trans h0) (by decide)
theorem tk_nu {t : TokS} (h : TkOk t) (h0 : t.f0 = 1) : NuOk t.f2 := by
  obtain ⟨h1, h2⟩ := h
  rcases h1 with h1 | h1 | h1
  · obtain ⟨h4, h5⟩ := (lex_val _ _ _ _ _ h1.2).2 h0
    have h6 := h2 h1
    unfold numOk at h4
    cases hp : Lib.parseIntB 64 (bl t.f1) with
    | ok v =>
      rw [hp] at h4
      have h7 : numV (bl t.f1) = v := by unfold numV; rw [hp]
      rw [h5, h7]
      refine ⟨parse_range _ _ hp, ?_⟩
      rw [of_decide_eq_true h4, bl_length]
      exact h6
    | _ => rw [hp] at h4; cases h4
  · exact absurd (h1.1.symm.trans h0) (by decide)
  · exact absurd (h1.1.symm.trans h0) (by decide)
def FdOk (f : Fd) : Prop := NmOk f.1 ∧ NmOk f.2.1 ∧ NuOk f.2.2
def ItOk : It → Prop
  | .pl f => FdOk f
  | .rp f => FdOk f
  | .mp k f => NmOk k ∧ FdOk f
  | .on nm fs => NmOk nm ∧ ∀ f ∈ fs, FdOk f
  | .rs n ns => NuOk n ∧ ∀ x ∈ ns, NuOk x
def VOk (v : ByteArray × Int) : Prop := NmOk v.1 ∧ NuOk v.2
def TpOk : Tp → Prop
  | .ms nm its => NmOk nm ∧ ∀ it ∈ its, ItOk it ∧ itW it
  | .en nm vs => NmOk nm ∧ ∀ v ∈ vs, VOk v
theorem take_false {k : Int} {s : PS} (h : (pTake k s).2.b = false) : s.b = false := by
  cases hb : s.b with
  | false => rfl
  | true => rw [pTake_bad _ _ hb, hb] at h; cases h
theorem must_false {x : List UInt8} {s : PS} (h : (pMust x s).b = false) : s.b = false := by
  cases hb : s.b with
  | false => rfl
  | true => rw [pMust_bad _ _ hb, hb] at h; cases h
theorem take_inv {k : Int} {s : PS} (h : (pTake k s).2.b = false) : ∃ t r, s = ⟨t :: r, false⟩ ∧ t.f0 = k ∧ pTake k s = (t, ⟨r, false⟩) := by
  have hb := take_false h
  obtain ⟨r, b⟩ := s
  cases hb
  cases r with
  | nil => cases h
  | cons t r =>
    by_cases hk : t.f0 = k
    · exact ⟨t, r, rfl, hk, take_run hk r⟩
    · rw [pTake_cons, if_neg hk] at h; cases h
theorem must_inv {x : List UInt8} {s : PS} (h : (pMust x s).b = false) : ∃ t r, s = ⟨t :: r, false⟩ ∧ isT 3 x t = true ∧ pMust x s = ⟨r, false⟩ := by
  have hb := must_false h
  obtain ⟨r, b⟩ := s
  cases hb
  cases r with
  | nil => cases h
  | cons t r =>
    by_cases hk : isT 3 x t = true
    · exact ⟨t, r, rfl, hk, must_run hk r⟩
    · rw [pMust_cons, if_neg hk] at h; cases h
theorem named_inv {s : PS} (h : (pNamed s).2.b = false) : ∃ t1 t2 t3 t4 r, s = ⟨t1 :: t2 :: t3 :: t4 :: r, false⟩ ∧ t1.f0 = 0 ∧ t3.f0 = 1 ∧ pNamed s = ((t1.f1, t3.f2), ⟨r, false⟩) := by
  unfold pNamed at h ⊢
  simp only at h ⊢
  obtain ⟨t4, r4, e4, k4, g4⟩ := must_inv h
  obtain ⟨t3, r3, e3, k3, g3⟩ := take_inv (show (pTake 1 (pMust [61] (pTake 0 s).2)).2.b = false by rw [e4])
  obtain ⟨t2, r2, e2, k2, g2⟩ := must_inv (show (pMust [61] (pTake 0 s).2).b = false by rw [e3])
  obtain ⟨t1, r1, e1, k1, g1⟩ := take_inv (show (pTake 0 s).2.b = false by rw [e2])
  have q1 : r1 = t2 :: r2 := by rw [g1] at e2; injection e2
  have q2 : r2 = t3 :: r3 := by rw [g2] at e3; injection e3
  have q3 : r3 = t4 :: r4 := by rw [g3] at e4; injection e4
  rw [g4, g3, g1]
  subst q3 q2 q1
  exact ⟨t1, t2, t3, t4, r4, e1, k1, k3, rfl⟩
theorem field_inv {one e : Int} {s : PS} (h : (pField e one s).2.b = false) (hT : ∀ t ∈ s.r, TkOk t) : ∃ (f : Fd) (t t2 : TokS) (c r : List TokS), s = ⟨t :: t2 :: c ++ r, false⟩ ∧ t.f0 = 0 ∧ t.f1 = f.1 ∧ t2.f0 = 0 ∧ c.length = 3 ∧ FdOk f ∧ (pField e one s).2 = ⟨r, false⟩ ∧ stF (pField e one s).1 = fdF one f := by
  unfold pField at h ⊢
  simp only at h ⊢
  obtain ⟨t1, t2, t3, t4, r, e2, k1, k3, g⟩ := named_inv h
  obtain ⟨t0, r0, e1, k0, g0⟩ := take_inv (show (pTake 0 s).2.b = false by rw [e2])
  rw [g0] at e2 g ⊢
  simp only at e2 g ⊢
  injection e2 with e2
  subst e2
  rw [e1] at hT
  rw [g]
  refine ⟨(t0.f1, t1.f1, t3.f2), t0, t1, [t2, t3, t4], r, e1, k0, rfl, k1, rfl, ⟨tk_nm (hT t0 (by simp)) k0, tk_nm (hT t1 (by simp)) k1, tk_nu (hT t3 (by simp)) k3⟩, rfl, rfl⟩
theorem sign_f (x : List UInt8) (r : List TokS) : pSign x ⟨r, false⟩ = (false, ⟨r, false⟩) ∨ ∃ t r', r = t :: r' ∧ isT 3 x t = true ∧ pSign x ⟨r, false⟩ = (true, ⟨r', false⟩) := by
  cases r with
  | nil => exact .inl rfl
  | cons t r =>
    by_cases h : isT 3 x t = true
    · exact .inr ⟨t, r, rfl, h, sgn_yes h r⟩
    · rw [pSign_cons, if_neg h]; exact .inl rfl
theorem loop_inv {α β γ : Type} (x : List UInt8) {P : α → Int → PS → α × PS} (hP : ∀ a, Good (P a)) (st : α → γ) (add : γ → β → γ) (tk : β → List Br) (ok : β → Prop)
    (hinv : ∀ a e r, (P a e ⟨r, false⟩).2.b = false → (∀ t ∈ r, TkOk t) → ∃ b c r', r = c ++ r' ∧ (P a e ⟨r, false⟩).2 = ⟨r', false⟩ ∧ st (P a e ⟨r, false⟩).1 = add (st a) b ∧ ok b ∧ c.length = (tk b).length) :
    ∀ (n : Nat) (a : α) (e : Int) (r : List TokS), r.length ≤ n → (pLoopW x P a e ⟨r, false⟩).2.b = false → (∀ t ∈ r, TkOk t) →
      ∃ (l : List β) (c r' : List TokS), r = c ++ r' ∧ (pLoopW x P a e ⟨r, false⟩).2 = ⟨r', false⟩ ∧ st (pLoopW x P a e ⟨r, false⟩).1 = l.foldl add (st a) ∧ (∀ b ∈ l, ok b) ∧ c.length = (l.map tk).flatten.length + 1 := by
  intro n
  induction n with
  | zero =>
    intro a e r hn hb _
    obtain rfl : r = [] := List.length_eq_zero_iff.1 (by omega)
    rw [pLoopW_eq x hP a e _ rfl, pSign_nil, if_neg (by decide), (hP a).nil e, pLoopW_stay _ _ _ _ _ rfl] at hb
    cases hb
  | succ n ih =>
    intro a e r hn hb hT
    rw [pLoopW_eq x hP a e _ rfl] at hb ⊢
    rcases sign_f x r with h | ⟨t, r', rfl, h1, h2⟩
    · rw [h] at hb ⊢
      rw [if_neg Bool.false_ne_true] at hb ⊢
      have h1 : (P a e ⟨r, false⟩).2.b = false := by
        cases hq : (P a e ⟨r, false⟩).2.b with
        | false => rfl
        | true => rw [pLoopW_stay _ _ _ _ _ hq, hq] at hb; cases hb
      obtain ⟨c0, hc0, hr0, _⟩ := (hP a).good e r h1
      obtain ⟨b, c, r', hr, h2, h3, h4, h5⟩ := hinv a e r h1 hT
      rw [h2] at hb hr0 ⊢
      have hl : r'.length ≤ n := by
        have e1 := congrArg List.length hr0
        rw [List.length_append] at e1
        have : 0 < c0.length := List.length_pos_iff.2 hc0
        simp only at e1
        omega
      obtain ⟨l, c2, r2, g1, g2, g3, g4, g5⟩ := ih _ e r' hl hb (fun t ht => hT t (by rw [hr]; simp [ht]))
      refine ⟨b :: l, c ++ c2, r2, by rw [hr, g1, List.append_assoc], g2, ?_, fun y hy => ?_, ?_⟩
      · rw [g3, h3]; rfl
      · rcases List.mem_cons.1 hy with rfl | hy
        · exact h4
        · exact g4 y hy
      · rw [List.map_cons, List.flatten_cons, List.length_append, List.length_append]
        omega
    · rw [h2, if_pos rfl]
      exact ⟨[], [t], r', rfl, rfl, rfl, fun _ hb => absurd hb List.not_mem_nil, rfl⟩
theorem numM_inv : ∀ (n : Nat) (a : List Int) (r : List TokS), r.length ≤ n → (pNumM a ⟨r, false⟩).2.b = false → (∀ t ∈ r, TkOk t) → ∃ m ns c r', r = c ++ r' ∧ pNumM a ⟨r, false⟩ = (a ++ m :: ns, ⟨r', false⟩) ∧ NuOk m ∧ (∀ x ∈ ns, NuOk x) ∧ c.length = (comT ns).length + 2 := by
  intro n
  induction n with
  | zero =>
    intro a r hn hb _
    obtain rfl : r = [] := List.length_eq_zero_iff.1 (by omega)
    rw [pNumM_nil] at hb
    cases hb
  | succ n ih =>
    intro a r hn hb hT
    cases r with
    | nil => rw [pNumM_nil] at hb; cases hb
    | cons t r =>
      by_cases h1 : t.f0 = 1
      · have hN := tk_nu (hT t (by simp)) h1
        cases r with
        | nil => rw [pNumM_one _ _ h1] at hb; cases hb
        | cons u r =>
          rw [pNumM_two _ _ _ _ h1] at hb ⊢
          by_cases h2 : isT 3 [44] u = true
          · rw [if_pos h2] at hb ⊢
            obtain ⟨m, ns, c, r', g1, g2, g3, g4, g5⟩ := ih (a ++ [t.f2]) r (by simp only [List.length_cons] at hn; omega) hb (fun x hx => hT x (by simp [hx]))
            refine ⟨t.f2, m :: ns, t :: u :: c, r', by rw [g1]; rfl, by rw [g2]; simp, hN, fun x hx => ?_, ?_⟩
            · rcases List.mem_cons.1 hx with rfl | hx
              · exact g3
              · exact g4 x hx
            · simp only [comT, List.length_cons, g5]
          · rw [if_neg h2] at hb ⊢
            by_cases h3 : isT 3 [59] u = true
            · rw [if_pos h3]
              exact ⟨t.f2, [], [t, u], r, rfl, rfl, hN, fun _ hx => absurd hx List.not_mem_nil, rfl⟩
            · rw [if_neg h3] at hb; cases hb
      · rw [pNumM_no _ _ _ h1] at hb; cases hb
theorem isT_txt {k : Int} {x : List UInt8} {t : TokS} (h0 : t.f0 = k) (h : isT k x t = false) : bl t.f1 ≠ x := by
  intro e
  unfold isT at h
  rw [h0, e] at h
  simp at h
theorem item_inv (m : MAcc) (e : Int) (r : List TokS) (h : (pItem m e ⟨r, false⟩).2.b = false) (hT : ∀ t ∈ r, TkOk t) : ∃ it c r', r = c ++ r' ∧ (pItem m e ⟨r, false⟩).2 = ⟨r', false⟩ ∧ stA (pItem m e ⟨r, false⟩).1 = addI (stA m) it ∧ (ItOk it ∧ itW it) ∧ c.length = (itT it).length := by
  rw [pItem_eq] at h ⊢
  cases r with
  | nil =>
    rw [show pIs 0 0 wRep ⟨[], false⟩ = false from rfl, show pIs 0 0 wOneof ⟨[], false⟩ = false from rfl, show pIs 0 0 wRes ⟨[], false⟩ = false from rfl, show isMap ⟨[], false⟩ = false from rfl] at h
    simp only [Bool.false_eq_true, if_false] at h
    rw [(plain_good m).nil e] at h
    cases h
  | cons t r =>
    rw [isw, isw, isw] at h ⊢
    by_cases h1 : isT 0 wRep t = true
    · rw [if_pos h1] at h ⊢
      unfold pRep at h ⊢
      rw [take_run (isT_kind h1)] at h ⊢
      obtain ⟨f, t1, t2, c, r', hs, k1, _, k2, hc, ok, g1, g2⟩ := field_inv h (fun x hx => hT x (by simp only at hx; simp [hx]))
      injection hs with hs
      refine ⟨.rp f, t :: t1 :: t2 :: c, r', by rw [hs]; rfl, g1, ?_, ⟨ok, trivial⟩, by simp [itT, fdT, valT, hc]⟩
      unfold stA addI
      simp only [List.map_append, List.map_cons, List.map_nil]
      have e2 : ∀ (g : FieldS) (q : Int), stF (repF g q) = ⟨(stF g).f0, (stF g).f1, true, (stF g).f3, (stF g).f4, (stF g).f5, 0⟩ := fun _ _ => rfl
      rw [e2, g2]
      rfl
    · rw [if_neg h1] at h ⊢
      by_cases h2 : isT 0 wOneof t = true
      · rw [if_pos h2] at h ⊢
        unfold pOneof at h ⊢
        simp only at h ⊢
        rw [take_run (isT_kind h2)] at h ⊢
        have hb1 : (pMust [123] (pTake 0 ⟨r, false⟩).2).b = false := by
          cases hq : (pMust [123] (pTake 0 ⟨r, false⟩).2).b with
          | false => rfl
          | true =>
            simp only at h
            rw [pLoopW_stay _ _ _ _ _ hq, hq] at h
            cases h
        obtain ⟨t3, r3, e3, k3, g3⟩ := must_inv hb1
        obtain ⟨t2, r2, e2, k2, g2⟩ := take_inv (show (pTake 0 ⟨r, false⟩).2.b = false by rw [e3])
        rw [g2] at h e3 g3 ⊢
        simp only at h e3 g3 ⊢
        injection e3 with e3
        subst e3
        injection e2 with e2
        subst e2
        rw [g3] at h ⊢
        obtain ⟨l, c, r', q1, q2, q3, q4, q5⟩ := loop_inv [125] (P := pOne ((m.2.1.length : Int) + 1)) (one_good _) (List.map stF) (fun l f => l ++ [fdF ((m.2.1.length : Int) + 1) f]) fdT FdOk
          (fun a e r hr hT => by
            obtain ⟨f, t, t2, c, r', hs, _, _, _, hc, ok, g1, g2⟩ := field_inv (s := ⟨r, false⟩) hr hT
            injection hs with hs
            exact ⟨f, t :: t2 :: c, r', hs, g1, by unfold pOne; simp only [List.map_append, List.map_cons, List.map_nil]; rw [g2], ok, by simp [fdT, valT, hc]⟩)
          r3.length m.1 e r3 (Nat.le_refl _) h (fun x hx => hT x (by simp [hx]))
        refine ⟨.on t2.f1 l, t :: t2 :: t3 :: c, r', by rw [q1]; rfl, q2, ?_, ⟨⟨tk_nm (hT t2 (by simp)) k2, q4⟩, trivial⟩, ?_⟩
        · unfold stA addI
          simp only
          rw [q3, fold_snoc]
        · simp only [itT, List.length_cons, List.length_append, List.length_nil, q5, fdsT_flat]
      · rw [if_neg h2] at h ⊢
        by_cases h3 : isT 0 wRes t = true
        · rw [if_pos h3] at h ⊢
          have hr : (pNumM m.2.2 ⟨r, false⟩).2.b = false := by
            unfold pRes at h
            rw [take_run (isT_kind h3)] at h
            exact h
          obtain ⟨n, ns, c, r', q1, q2, q3, q4, q5⟩ := numM_inv r.length m.2.2 r (Nat.le_refl _) hr (fun x hx => hT x (by simp [hx]))
          have e1 : (pNums (r.length + 1) m.2.2 ⟨r, false⟩).1 = m.2.2 ++ n :: ns := congrArg Prod.fst q2
          have e2 : pMust [59] (pNums (r.length + 1) m.2.2 ⟨r, false⟩).2 = ⟨r', false⟩ := congrArg Prod.snd q2
          unfold pRes
          rw [take_run (isT_kind h3)]
          refine ⟨.rs n ns, t :: c, r', by rw [q1]; rfl, e2, ?_, ⟨⟨q3, q4⟩, trivial⟩, by simp only [itT, List.length_cons, List.length_append, List.length_nil, q5]⟩
          unfold stA addI
          simp only
          rw [e1]
        · rw [if_neg h3] at h ⊢
          by_cases h4 : isMap ⟨t :: r, false⟩ = true
          · rw [if_pos h4] at h ⊢
            unfold pMap pMapT at h ⊢
            simp only at h ⊢
            obtain ⟨u1, u2, u3, u4, r', e7, k7, k8, g7⟩ := named_inv h
            obtain ⟨t6, r6, e6, k6, g6⟩ := must_inv (show (pMust [62] (pTake 0 (pMust [44] (pTake 0 (pMust [60] (pTake 0 ⟨t :: r, false⟩).2)).2)).2).b = false by rw [e7])
            obtain ⟨t5, r5, e5, k5, g5⟩ := take_inv (show (pTake 0 (pMust [44] (pTake 0 (pMust [60] (pTake 0 ⟨t :: r, false⟩).2)).2)).2.b = false by rw [e6])
            obtain ⟨t4, r4, e4, k4, g4⟩ := must_inv (show (pMust [44] (pTake 0 (pMust [60] (pTake 0 ⟨t :: r, false⟩).2)).2).b = false by rw [e5])
            obtain ⟨t3, r3, e3, k3, g3⟩ := take_inv (show (pTake 0 (pMust [60] (pTake 0 ⟨t :: r, false⟩).2)).2.b = false by rw [e4])
            obtain ⟨t2, r2, e2, k2, g2⟩ := must_inv (show (pMust [60] (pTake 0 ⟨t :: r, false⟩).2).b = false by rw [e3])
            obtain ⟨t1, r1, e1, k1, g1⟩ := take_inv (show (pTake 0 ⟨t :: r, false⟩).2.b = false by rw [e2])
            have q1 : r1 = t2 :: r2 := by rw [g1] at e2; injection e2
            have q2 : r2 = t3 :: r3 := by rw [g2] at e3; injection e3
            have q3 : r3 = t4 :: r4 := by rw [g3] at e4; injection e4
            have q4 : r4 = t5 :: r5 := by rw [g4] at e5; injection e5
            have q5 : r5 = t6 :: r6 := by rw [g5] at e6; injection e6
            have q6 : r6 = u1 :: u2 :: u3 :: u4 :: r' := by rw [g6] at e7; injection e7
            rw [g7, g5, g3]
            subst q6 q5 q4 q3 q2 q1
            injection e1 with e1 _
            rw [e1] at hT ⊢
            refine ⟨.mp t3.f1 (t5.f1, u1.f1, u3.f2), [t1, t2, t3, t4, t5, t6, u1, u2, u3, u4], r', rfl, rfl, ?_, ⟨⟨tk_nm (hT t3 (by simp)) k3, tk_nm (hT t5 (by simp)) k5, tk_nm (hT u1 (by simp)) k7, tk_nu (hT u3 (by simp)) k8⟩, trivial⟩, rfl⟩
            unfold stA addI
            simp only [List.map_append, List.map_cons, List.map_nil, stF]
          · rw [if_neg h4] at h ⊢
            unfold pPlain at h ⊢
            simp only at h ⊢
            obtain ⟨f, t1, t2, c, r', hs, k1, k1', k2, hc, ok, g1, g2⟩ := field_inv h hT
            injection hs with hs _
            injection hs with ha hb
            subst ha
            refine ⟨.pl f, t :: t2 :: c, r', by rw [hb]; rfl, g1, ?_, ⟨ok, ?_⟩, by simp [itT, fdT, valT, hc]⟩
            · unfold stA addI
              simp only [List.map_append, List.map_cons, List.map_nil, g2]
            · show bl f.1 ≠ wRep ∧ bl f.1 ≠ wOneof ∧ bl f.1 ≠ wRes
              rw [← k1']
              exact ⟨isT_txt k1 (by simpa using h1), isT_txt k1 (by simpa using h2), isT_txt k1 (by simpa using h3)⟩
theorem loopW_false {α : Type} {x : List UInt8} {P : α → Int → PS → α × PS} {a : α} {e : Int} {s : PS} (h : (pLoopW x P a e s).2.b = false) : s.b = false := by
  cases hq : s.b with
  | false => rfl
  | true => rw [pLoopW_stay _ _ _ _ _ hq, hq] at h; cases h
theorem tp_inv (f : FileS) (e : Int) (r : List TokS) (h : (pTop1 f e ⟨r, false⟩).2.b = false) (hT : ∀ t ∈ r, TkOk t) : ∃ x c r', r = c ++ r' ∧ (pTop1 f e ⟨r, false⟩).2 = ⟨r', false⟩ ∧ stFi (pTop1 f e ⟨r, false⟩).1 = addT (stFi f) x ∧ TpOk x ∧ c.length = (tpT x).length := by
  cases r with
  | nil => exact absurd (show true = false from h) (by decide)
  | cons t r =>
    unfold pTop1 at h ⊢
    rw [isw, isw] at h ⊢
    by_cases h1 : isT 0 wMsg t = true
    · rw [if_pos h1] at h ⊢
      unfold pMsg at h ⊢
      simp only at h ⊢
      rw [take_run (isT_kind h1)] at h ⊢
      obtain ⟨t3, r3, e3, k3, g3⟩ := must_inv (loopW_false h)
      obtain ⟨t2, r2, e2, k2, g2⟩ := take_inv (show (pTake 0 ⟨r, false⟩).2.b = false by rw [e3])
      rw [g2] at h e3 g3 ⊢
      simp only at h e3 g3 ⊢
      injection e3 with e3
      subst e3
      injection e2 with e2
      subst e2
      rw [g3] at h ⊢
      obtain ⟨l, c, r', q1, q2, q3, q4, q5⟩ := loop_inv [125] (P := pItem) item_good stA addI itT (fun it => ItOk it ∧ itW it) item_inv r3.length ([], [], []) e r3 (Nat.le_refl _) h (fun x hx => hT x (by simp [hx]))
      refine ⟨.ms t2.f1 l, t :: t2 :: t3 :: c, r', by rw [q1]; rfl, q2, ?_, ⟨tk_nm (hT t2 (by simp)) k2, q4⟩, ?_⟩
      · have e0 : stA ([], [], []) = ([], [], []) := rfl
        rw [e0] at q3
        unfold stFi addT
        simp only [List.map_append, List.map_cons, List.map_nil, stM]
        rw [← q3]
        rfl
      · simp only [tpT, List.length_cons, List.length_append, List.length_nil, q5, itsT_flat]
    · rw [if_neg h1] at h ⊢
      by_cases h2 : isT 0 wEnum t = true
      · rw [if_pos h2] at h ⊢
        unfold pEnum at h ⊢
        simp only at h ⊢
        rw [take_run (isT_kind h2)] at h ⊢
        obtain ⟨t3, r3, e3, k3, g3⟩ := must_inv (loopW_false h)
        obtain ⟨t2, r2, e2, k2, g2⟩ := take_inv (show (pTake 0 ⟨r, false⟩).2.b = false by rw [e3])
        rw [g2] at h e3 g3 ⊢
        simp only at h e3 g3 ⊢
        injection e3 with e3
        subst e3
        injection e2 with e2
        subst e2
        rw [g3] at h ⊢
        obtain ⟨l, c, r', q1, q2, q3, q4, q5⟩ := loop_inv [125] (P := pVal) val_good (List.map stV) addV (fun v => valT v.1 v.2) VOk
          (fun a e r hr hT => by
            unfold pVal at hr ⊢
            obtain ⟨u1, u2, u3, u4, r', hs, k1, k3, g⟩ := named_inv (s := ⟨r, false⟩) hr
            injection hs with hs
            rw [hs] at hT
            rw [g]
            exact ⟨(u1.f1, u3.f2), [u1, u2, u3, u4], r', hs, rfl, by unfold addV; simp only [List.map_append, List.map_cons, List.map_nil, stV], ⟨tk_nm (hT u1 (by simp)) k1, tk_nu (hT u3 (by simp)) k3⟩, rfl⟩)
          r3.length [] e r3 (Nat.le_refl _) h (fun x hx => hT x (by simp [hx]))
        refine ⟨.en t2.f1 l, t :: t2 :: t3 :: c, r', by rw [q1]; rfl, q2, ?_, ⟨tk_nm (hT t2 (by simp)) k2, q4⟩, ?_⟩
        · unfold stFi addT
          simp only [List.map_append, List.map_cons, List.map_nil, stE]
          rw [q3]
          rfl
        · simp only [tpT, List.length_cons, List.length_append, List.length_nil, q5, valsT_flat]
      · rw [if_neg h2] at h
        cases h
theorem tps_inv : ∀ (n : Nat) (f : FileS) (e : Int) (r : List TokS) (k : Nat), r.length ≤ n → r.length < k → (pTop k f e ⟨r, false⟩).2.b = false → (∀ t ∈ r, TkOk t) →
    ∃ l, stFi (pTop k f e ⟨r, false⟩).1 = l.foldl addT (stFi f) ∧ (∀ x ∈ l, TpOk x) ∧ r.length = (tpsT l).length := by
  intro n
  induction n with
  | zero =>
    intro f e r k hn hk hb _
    obtain rfl : r = [] := List.length_eq_zero_iff.1 (by omega)
    rw [pTop_nil]
    exact ⟨[], rfl, fun _ hx => absurd hx List.not_mem_nil, rfl⟩
  | succ n ih =>
    intro f e r k hn hk hb hT
    cases r with
    | nil =>
      rw [pTop_nil]
      exact ⟨[], rfl, fun _ hx => absurd hx List.not_mem_nil, rfl⟩
    | cons t r =>
      obtain ⟨k, rfl⟩ : ∃ j, k = j + 1 := ⟨k - 1, by omega⟩
      rw [pTop_step] at hb ⊢
      have h1 : (pTop1 f e ⟨t :: r, false⟩).2.b = false := by
        cases hq : (pTop1 f e ⟨t :: r, false⟩).2.b with
        | false => rfl
        | true => rw [pTop_stay _ _ _ _ hq, hq] at hb; cases hb
      obtain ⟨x, c, r', g1, g2, g3, g4, g5⟩ := tp_inv f e (t :: r) h1 hT
      have hc : 0 < c.length := by
        rw [g5]
        cases x <;> simp [tpT]
      rw [g2] at hb ⊢
      have hl := congrArg List.length g1
      rw [List.length_append] at hl
      obtain ⟨l, q1, q2, q3⟩ := ih (pTop1 f e ⟨t :: r, false⟩).1 e r' k (by omega) (by simp only [List.length_cons] at hk hl; omega) hb (fun u hu => hT u (by rw [g1]; simp [hu]))
      refine ⟨x :: l, ?_, fun y hy => ?_, ?_⟩
      · rw [q1, g3]; rfl
      · rcases List.mem_cons.1 hy with rfl | hy
        · exact g4
        · exact q2 y hy
      · rw [tpsT, List.length_append, hl]; omega
end Go.Proofs.YtddpjjhekhompaaGreatDoor.P
namespace Go.Proofs.YtddpjjhekhompaaGreatDoor.P
open Go.RowKit Go.Proofs.YtddpjjhekhompaaGreatDoorW.PrintWords Go.Proofs.YtddpjjhekhompaaGreatDoorW.PrintLast Go.Proofs.YtddpjjhekhompaaGreatDoorW.PrintMore
set_option linter.unusedVariables false
set_option linter.unusedSimpArgs false
theorem decDigits_small (u : Nat) (h : u < 10) : Lib.decDigits u = [UInt8.ofNat (48 + u)] := Lib.decDigits_one h
theorem decDigits_big (u : Nat) (h : ¬ u < 10) : Lib.decDigits u = Lib.decDigits (u / 10) ++ [UInt8.ofNat (48 + u % 10)] := by
  conv => lhs; rw [Lib.decDigits]
  rw [dif_neg h]
theorem parseM_append (M : Nat) (l : List UInt8) (d : UInt8) : ∀ acc a, Lib.parseUintM M acc l = .ok a → Lib.parseUintM M acc (l ++ [d]) = Lib.parseUintM M a [d] := by
  induction l with
  | nil => intro acc a h; simp only [Lib.parseUintM] at h; cases h; rfl
  | cons c r ih =>
    intro acc a h
    simp only [List.cons_append, Lib.parseUintM] at h ⊢
    by_cases h1 : 48 ≤ c.toNat ∧ c.toNat ≤ 57
    · rw [if_pos h1] at h ⊢
      split at h
      · cases h
      · rename_i h2
        rw [if_neg h2]
        split at h
        · cases h
        · rename_i h3
          rw [if_neg h3]
          have := ih _ _ h
          simpa only [Lib.parseUintM] using this
    · rw [if_neg h1] at h
      cases h
theorem digit_byte (n : Nat) (h : n < 10) : (UInt8.ofNat (48 + n)).toNat = 48 + n := by rw [UInt8.toNat_ofNat', Nat.mod_eq_of_lt (by omega)]
theorem parseM_dec (u : Nat) : u ≤ 9223372036854775808 → Lib.parseUintM 18446744073709551615 0 (Lib.decDigits u) = .ok u := by
  induction u using Nat.strongRecOn with
  | _ u ih =>
    intro hu
    by_cases h : u < 10
    · rw [decDigits_small u h]
      simp only [Lib.parseUintM, digit_byte u h]
      rw [if_pos (by omega), if_neg (by omega), if_neg (by omega)]
      simp
    · rw [decDigits_big u h, parseM_append _ _ _ _ _ (ih (u / 10) (by omega) (by omega))]
      have hm : u % 10 < 10 := Nat.mod_lt _ (by omega)
      simp only [Lib.parseUintM, digit_byte _ hm]
      rw [if_pos (by omega), if_neg (by omega), if_neg (by omega)]
      congr 1
      omega
theorem decDigits_head (u : Nat) : ∃ c r, Lib.decDigits u = c :: r ∧ 48 ≤ c.toNat ∧ c.toNat ≤ 57 := by
  induction u using Nat.strongRecOn with
  | _ u ih =>
    by_cases h : u < 10
    · exact ⟨_, [], decDigits_small u h, by rw [digit_byte u h]; omega, by rw [digit_byte u h]; omega⟩
    · obtain ⟨c, r, e, h1, h2⟩ := ih (u / 10) (by omega)
      exact ⟨c, r ++ [UInt8.ofNat (48 + u % 10)], by rw [decDigits_big u h, e]; rfl, h1, h2⟩
theorem decDigits_digits (u : Nat) : ∀ c ∈ Lib.decDigits u, 48 ≤ c.toNat ∧ c.toNat ≤ 57 := by
  induction u using Nat.strongRecOn with
  | _ u ih =>
    by_cases h : u < 10
    · rw [decDigits_small u h]
      intro c hc
      simp only [List.mem_singleton] at hc
      subst hc
      rw [digit_byte u h]; omega
    · rw [decDigits_big u h]
      intro c hc
      rcases List.mem_append.mp hc with hc | hc
      · exact ih (u / 10) (by omega) c hc
      · simp only [List.mem_singleton] at hc
        subst hc
        have hm : u % 10 < 10 := Nat.mod_lt _ (by omega)
        rw [digit_byte _ hm]; omega
theorem parse_itoa (n : Int) (h0 : -9223372036854775808 ≤ n) (h1 : n ≤ 9223372036854775807) : Lib.parseIntB 64 (Lib.itoa n) = .ok n := by
  have e63 : (2 : Nat) ^ (64 - 1) = 9223372036854775808 := by decide
  have e64 : (2 : Nat) ^ 64 - 1 = 18446744073709551615 := by decide
  by_cases hn : n < 0
  · obtain ⟨u, hu⟩ : ∃ u : Nat, n = -(u : Int) := ⟨n.natAbs, by omega⟩
    subst hu
    rw [Lib.itoa_neg u (by omega)]
    obtain ⟨c, r, hc, hc1, hc2⟩ := decDigits_head u
    have hp := parseM_dec u (by omega)
    unfold Lib.parseIntB
    have h45 : (45 : UInt8).toNat = 45 := rfl
    simp only [h45, or_true, if_true, Lib.parseUintB, e63, e64, hp]
    rw [if_neg (by rw [hc]; simp)]
    simp only [not_true_eq_false, false_and, if_false, true_and]
    rw [if_neg (by omega)]
  · obtain ⟨u, hu⟩ : ∃ u : Nat, n = (u : Int) := ⟨n.toNat, by omega⟩
    subst hu
    rw [Lib.itoa_nonneg u]
    obtain ⟨c, r, hc, hc1, hc2⟩ := decDigits_head u
    have hp := parseM_dec u (by omega)
    rw [hc] at hp ⊢
    unfold Lib.parseIntB
    have n43 : ¬ (c.toNat = 43 ∨ c.toNat = 45) := by omega
    have n45 : ¬ (c.toNat = 45) := by omega
    simp only [n43, if_false, Lib.parseUintB, e63, e64]
    rw [if_neg (by simp), hp]
    simp only [n45, not_false_eq_true, true_and, false_and, if_false]
    rw [if_neg (by omega)]
theorem numOk_itoa (n : Int) (h0 : -9223372036854775808 ≤ n) (h1 : n ≤ 9223372036854775807) : numOk (Lib.itoa n) = true := by
  unfold numOk; rw [parse_itoa n h0 h1]; simp
theorem numV_itoa (n : Int) (h0 : -9223372036854775808 ≤ n) (h1 : n ≤ 9223372036854775807) : numV (Lib.itoa n) = n := by
  unfold numV; rw [parse_itoa n h0 h1]
end Go.Proofs.YtddpjjhekhompaaGreatDoor.P
namespace Go.Proofs.YtddpjjhekhompaaGreatDoor.P
open Go.RowKit Go.Proofs.YtddpjjhekhompaaGreatDoorW.PrintWords Go.Proofs.YtddpjjhekhompaaGreatDoorW.PrintLast Go.Proofs.YtddpjjhekhompaaGreatDoorW.PrintMore
set_option linter.unusedVariables false
set_option linter.unusedSimpArgs false
def Lx (a : List UInt8) (ts : List Br) : Prop := ∀ (m p : Nat) (b : List UInt8), ts.length ≤ m → ∃ us, us.map brT = ts ∧ scan m p (a ++ b) = preE us (scan (m - ts.length) (p + a.length) b)
def LxS (a : List UInt8) (ts : List Br) : Prop := ∀ (m p : Nat) (b : List UInt8), sepL b → ts.length ≤ m → ∃ us, us.map brT = ts ∧ scan m p (a ++ b) = preE us (scan (m - ts.length) (p + a.length) b)
theorem preE_nil (x : List TokS ⊕ (Nat × Int)) : preE [] x = x := by cases x <;> rfl
theorem Lx.nil : Lx [] [] := fun m p b _ => ⟨[], rfl, by rw [preE_nil]; rfl⟩
theorem Lx.app {a b : List UInt8} {s t : List Br} (h : Lx a s) (g : Lx b t) : Lx (a ++ b) (s ++ t) := by
  intro m p c hm
  rw [List.length_append] at hm
  obtain ⟨us, u1, u2⟩ := h m p (b ++ c) (by omega)
  obtain ⟨vs, v1, v2⟩ := g (m - s.length) (p + a.length) c (by omega)
  refine ⟨us ++ vs, by rw [List.map_append, u1, v1], ?_⟩
  rw [List.append_assoc, u2, v2, preE_preE]
  congr 1
  rw [List.length_append, List.length_append, Nat.sub_sub, Nat.add_assoc]
theorem Lx.blank (c : UInt8) (hc : blankB c = true) : Lx [c] [] := fun m p b _ => ⟨[], rfl, by rw [preE_nil]; exact scan_blank m p c b hc⟩
theorem Lx.blanks : ∀ k, Lx (List.replicate k 32) []
  | 0 => Lx.nil
  | k + 1 => (Lx.blank 32 rfl).app (Lx.blanks k)
theorem Lx.sign (c : UInt8) (h : ofK (c.toNat : Int) = 3) : Lx [c] [sg [c]] := by
  intro m p b hm
  have hm' : ¬ m = 0 := by simp only [List.length_cons, List.length_nil] at hm; omega
  have h2 : lex1 (c :: b) = some (3, [c], 0, 1) := by rw [lex1_cons, h, if_neg (by decide), if_neg (by decide), if_neg (by decide), if_neg (by decide)]
  refine ⟨[⟨3, ⟨[c].toArray⟩, 0, p⟩], rfl, ?_⟩
  have h3 : scan m p (c :: b) = if m = 0 then .inr (p, 2) else preE [⟨3, ⟨[c].toArray⟩, 0, p⟩] (scan (m - 1) (p + 1) b) := by
    unfold scan
    rw [skip_tok c b (by rw [h]; decide), Nat.add_zero, List.drop_zero, lx_cons, h2]
    rfl
  rw [List.singleton_append, h3, if_neg hm']
  rfl
theorem LxS.of {a : List UInt8} {k v : Int} (h : lex1 a = some (k, a, v, a.length)) : LxS a [(k, a, v)] := by
  intro m p b hb hm
  have hm' : ¬ m = 0 := by simp only [List.length_cons, List.length_nil] at hm; omega
  exact ⟨[⟨k, ⟨a.toArray⟩, v, p⟩], rfl, by rw [scan_one m p a b k a v a.length h rfl hb, if_neg hm']; rfl⟩
theorem LxS.nm {x : ByteArray} (h : NmOk x) : LxS (bl x) [nmT x] := LxS.of h.1
theorem itoa_form (n : Int) : ∃ c r, Lib.itoa n = c :: r ∧ (c.toNat = 45 ∨ 48 ≤ c.toNat ∧ c.toNat ≤ 57) ∧ ∀ x ∈ r, 48 ≤ x.toNat ∧ x.toNat ≤ 57 := by
  by_cases hn : n < 0
  · obtain ⟨u, hu⟩ : ∃ u : Nat, n = -(u : Int) := ⟨n.natAbs, by omega⟩
    subst hu
    rw [Lib.itoa_neg u (by omega)]
    exact ⟨_, _, rfl, .inl rfl, decDigits_digits u⟩
  · obtain ⟨u, hu⟩ : ∃ u : Nat, n = (u : Int) := ⟨n.toNat, by omega⟩
    subst hu
    rw [Lib.itoa_nonneg u]
    obtain ⟨c, r, hc, hc1, hc2⟩ := decDigits_head u
    have := decDigits_digits u
    rw [hc] at this
    exact ⟨c, r, hc, .inr ⟨hc1, hc2⟩, fun x hx => this x (by simp [hx])⟩
theorem ofK_num (c : UInt8) (h : c.toNat = 45 ∨ 48 ≤ c.toNat ∧ c.toNat ≤ 57) : ofK (c.toNat : Int) = 1 := by
  unfold ofK
  rw [if_neg (by omega), if_pos (by omega)]
theorem numU_num (c : UInt8) (h : 48 ≤ c.toNat ∧ c.toNat ≤ 57) : numU c = true := by
  unfold numU numB
  rw [ofK_num c (.inr h)]
  have : ((c.toNat : Int) != 45) = true := by rw [bne_iff_ne]; omega
  rw [this]; rfl
theorem whole_while {α : Type} (p : α → Bool) : ∀ l : List α, (∀ x ∈ l, p x = true) → l.takeWhile p = l
  | [], _ => rfl
  | x :: r, h => by rw [List.takeWhile_cons, if_pos (h x (by simp)), whole_while p r (fun y hy => h y (by simp [hy]))]
theorem lex_itoa (n : Int) (h0 : -9223372036854775808 ≤ n) (h1 : n ≤ 9223372036854775807) : lex1 (Lib.itoa n) = some (1, Lib.itoa n, n, (Lib.itoa n).length) := by
  have hok := numOk_itoa n h0 h1
  have hv := numV_itoa n h0 h1
  obtain ⟨c, r, e, hc, hr⟩ := itoa_form n
  rw [e] at hok hv ⊢
  have hl : runN numU (c :: r) = (c :: r).length := by
    simp only [runN, List.length_cons]
    rw [whole_while numU r (fun x hx => numU_num x (hr x hx))]
    omega
  rw [lex1_cons, hl, List.take_length, hok, hv, ofK_num c hc]
  rw [if_neg (by decide), if_neg (by decide), if_pos rfl, if_pos rfl]
theorem LxS.nu {n : Int} (h : NuOk n) : LxS (Lib.itoa n) [nuT n] := LxS.of (lex_itoa n h.1.1 h.1.2)
theorem LxS.sep {a b : List UInt8} {c : UInt8} {s t : List Br} (h : LxS a s) (g : Lx (c :: b) t) (h1 : nameU c = false) (h2 : numU c = false) : Lx (a ++ c :: b) (s ++ t) := by
  intro m p d hm
  rw [List.length_append] at hm
  obtain ⟨us, u1, u2⟩ := h m p (c :: b ++ d) (fun c' r he => by injection he with he _; subst he; exact ⟨h1, h2⟩) (by omega)
  obtain ⟨vs, v1, v2⟩ := g (m - s.length) (p + a.length) d (by omega)
  refine ⟨us ++ vs, by rw [List.map_append, u1, v1], ?_⟩
  rw [List.append_assoc, u2, v2, preE_preE]
  congr 1
  rw [List.length_append, List.length_append, Nat.sub_sub, Nat.add_assoc]
def valP (nm : ByteArray) (n : Int) : List UInt8 := bl nm ++ 32 :: 61 :: 32 :: (Lib.itoa n ++ [59, 10])
theorem Lx.cons {c : UInt8} {b : List UInt8} {t : List Br} (hc : blankB c = true) (h : Lx b t) : Lx (c :: b) t := (Lx.blank c hc).app h
theorem Lx.scons {c : UInt8} {b : List UInt8} {t : List Br} (hc : ofK (c.toNat : Int) = 3) (h : Lx b t) : Lx (c :: b) (sg [c] :: t) := (Lx.sign c hc).app h
theorem end_lx : Lx [59, 10] [sg [59]] := Lx.scons (by decide) (Lx.cons rfl Lx.nil)
theorem val_lx {nm : ByteArray} {n : Int} (h1 : NmOk nm) (h2 : NuOk n) : Lx (valP nm n) (valT nm n) :=
  (LxS.nm h1).sep (Lx.cons rfl (Lx.scons (by decide) (Lx.cons rfl ((LxS.nu h2).sep end_lx (by decide) (by decide))))) (by decide) (by decide)
def fdP (f : Fd) : List UInt8 := bl f.1 ++ 32 :: valP f.2.1 f.2.2
theorem fd_lx {f : Fd} (h : FdOk f) : Lx (fdP f) (fdT f) := (LxS.nm h.1).sep (Lx.cons rfl (val_lx h.2.1 h.2.2)) (by decide) (by decide)
theorem wd_lx (w : List UInt8) (h : lex1 w = some (0, w, 0, w.length)) {b : List UInt8} {t : List Br} (g : Lx b t) : Lx (w ++ 32 :: b) (wdT w :: t) := (LxS.of h).sep (Lx.cons rfl g) (by decide) (by decide)
def hdP (w : List UInt8) (nm : ByteArray) : List UInt8 := w ++ 32 :: (bl nm ++ [32, 123, 10])
theorem hd_lx (w : List UInt8) (h : lex1 w = some (0, w, 0, w.length)) {nm : ByteArray} (h1 : NmOk nm) : Lx (hdP w nm) [wdT w, nmT nm, sg [123]] :=
  wd_lx w h ((LxS.nm h1).sep (Lx.cons rfl (Lx.scons (by decide) (Lx.cons rfl Lx.nil))) (by decide) (by decide))
theorem shut_lx (n : Nat) : Lx (lineL n shutP) [sg [125]] := by
  have e : lineL n shutP = List.replicate (2 * n) 32 ++ [125, 10] := by unfold lineL shutP flatB; simp [bl]
  rw [e]
  exact (Lx.blanks _).app (Lx.scons (by decide) (Lx.cons rfl Lx.nil))
def mpP (k : ByteArray) (f : Fd) : List UInt8 := wMap ++ 60 :: (bl k ++ 44 :: 32 :: (bl f.1 ++ 62 :: 32 :: valP f.2.1 f.2.2))
theorem mp_lx {k : ByteArray} {f : Fd} (h0 : NmOk k) (h : FdOk f) : Lx (mpP k f) (itT (.mp k f)) :=
  (LxS.of (show lex1 wMap = some (0, wMap, 0, wMap.length) by decide)).sep (Lx.scons (by decide) ((LxS.nm h0).sep (Lx.scons (by decide) (Lx.cons rfl ((LxS.nm h.1).sep (Lx.scons (by decide) (Lx.cons rfl (val_lx h.2.1 h.2.2))) (by decide) (by decide)))) (by decide) (by decide))) (by decide) (by decide)
def comP : List Int → List UInt8
  | [] => []
  | n :: r => 44 :: 32 :: (Lib.itoa n ++ comP r)
theorem com_lx : ∀ (ns : List Int) (n : Int), NuOk n → (∀ x ∈ ns, NuOk x) → Lx (Lib.itoa n ++ (comP ns ++ [59, 10])) (nuT n :: (comT ns ++ [sg [59]]))
  | [], n, h, _ => (LxS.nu h).sep end_lx (by decide) (by decide)
  | m :: ns, n, h, hs => (LxS.nu h).sep (show Lx (44 :: (32 :: (Lib.itoa m ++ comP ns) ++ [59, 10])) (sg [44] :: (nuT m :: (comT ns ++ [sg [59]]))) from by
      refine Lx.scons (by decide) ?_
      rw [List.cons_append, List.append_assoc]
      exact Lx.cons rfl (com_lx ns m (hs m (by simp)) (fun x hx => hs x (by simp [hx])))) (by decide) (by decide)
def rsP (n : Int) (ns : List Int) : List UInt8 := wRes ++ 32 :: (Lib.itoa n ++ (comP ns ++ [59, 10]))
theorem rs_lx {n : Int} {ns : List Int} (h : NuOk n) (hs : ∀ x ∈ ns, NuOk x) : Lx (rsP n ns) (itT (.rs n ns)) := wd_lx wRes (by decide) (com_lx ns n h hs)
def indL (n : Nat) (l : List UInt8) : List UInt8 := List.replicate (2 * n) 32 ++ l
def fdsP : List Fd → List UInt8
  | [] => []
  | f :: r => indL 2 (fdP f) ++ fdsP r
def itP : It → List UInt8
  | .pl f => indL 1 (fdP f)
  | .rp f => indL 1 (wRep ++ 32 :: fdP f)
  | .mp k f => indL 1 (mpP k f)
  | .on nm fs => indL 1 (hdP wOneof nm) ++ (fdsP fs ++ lineL 1 shutP)
  | .rs n ns => indL 1 (rsP n ns)
theorem Lx.indL {n : Nat} {l : List UInt8} {t : List Br} (h : Lx l t) : Lx (indL n l) t := (Lx.blanks _).app h
theorem fds_lx : ∀ fs : List Fd, (∀ f ∈ fs, FdOk f) → Lx (fdsP fs) (fdsT fs)
  | [], _ => Lx.nil
  | f :: r, h => (Lx.indL (fd_lx (h f (by simp)))).app (fds_lx r (fun x hx => h x (by simp [hx])))
theorem it_lx (it : It) (h : ItOk it) : Lx (itP it) (itT it) := by
  cases it with
  | pl f => exact Lx.indL (fd_lx h)
  | rp f => exact Lx.indL (wd_lx wRep (by decide) (fd_lx h))
  | mp k f => exact Lx.indL (mp_lx h.1 h.2)
  | on nm fs => exact (Lx.indL (hd_lx wOneof (by decide) h.1)).app ((fds_lx fs h.2).app (shut_lx 1))
  | rs n ns => exact Lx.indL (rs_lx h.1 h.2)
def itsP : List It → List UInt8
  | [] => []
  | x :: r => itP x ++ itsP r
theorem its_lx : ∀ l : List It, (∀ x ∈ l, ItOk x) → Lx (itsP l) (itsT l)
  | [], _ => Lx.nil
  | x :: r, h => (it_lx x (h x (by simp))).app (its_lx r (fun y hy => h y (by simp [hy])))
def valsP : List (ByteArray × Int) → List UInt8
  | [] => []
  | v :: r => indL 1 (valP v.1 v.2) ++ valsP r
theorem vals_lx : ∀ l : List (ByteArray × Int), (∀ x ∈ l, VOk x) → Lx (valsP l) (valsT l)
  | [], _ => Lx.nil
  | v :: r, h => (Lx.indL (val_lx (h v (by simp)).1 (h v (by simp)).2)).app (vals_lx r (fun y hy => h y (by simp [hy])))
def tpP : Tp → List UInt8
  | .ms nm its => hdP wMsg nm ++ (itsP its ++ lineL 0 shutP)
  | .en nm vs => hdP wEnum nm ++ (valsP vs ++ lineL 0 shutP)
theorem tp_lx (x : Tp) (h : TpOk x) : Lx (tpP x) (tpT x) := by
  cases x with
  | ms nm its => exact (hd_lx wMsg (by decide) h.1).app ((its_lx its (fun y hy => (h.2 y hy).1)).app (shut_lx 0))
  | en nm vs => exact (hd_lx wEnum (by decide) h.1).app ((vals_lx vs h.2).app (shut_lx 0))
def tpsP : List Tp → List UInt8
  | [] => []
  | x :: r => tpP x ++ tpsP r
theorem tps_lx : ∀ l : List Tp, (∀ x ∈ l, TpOk x) → Lx (tpsP l) (tpsT l)
  | [], _ => Lx.nil
  | x :: r, h => (tp_lx x (h x (by simp))).app (tps_lx r (fun y hy => h y (by simp [hy])))
theorem nm_len {x : ByteArray} (h : NmOk x) : (bl x).length ≤ 1500 := by rw [bl_length]; exact h.2
theorem val_len {nm : ByteArray} {n : Int} (h1 : NmOk nm) (h2 : NuOk n) : (valP nm n).length ≤ 4000 := by
  have a1 := nm_len h1
  have a2 := h2.2
  unfold valP
  simp only [List.length_append, List.length_cons, List.length_nil]
  omega
theorem fd_len {f : Fd} (h : FdOk f) : (fdP f).length ≤ 6000 := by
  have a1 := nm_len h.1
  have a2 := val_len h.2.1 h.2.2
  unfold fdP
  simp only [List.length_append, List.length_cons]
  omega
theorem indL_len (n : Nat) (l : List UInt8) : (indL n l).length = 2 * n + l.length := by unfold indL; simp
theorem fds_len : ∀ fs : List Fd, (∀ f ∈ fs, FdOk f) → (fdsP fs).length ≤ 10000 * (fdsT fs).length
  | [], _ => Nat.zero_le _
  | f :: r, h => by
    have a1 := fd_len (h f (by simp))
    have a2 := fds_len r (fun x hx => h x (by simp [hx]))
    simp only [fdsP, fdsT, fdT, valT, List.length_append, indL_len, List.length_cons, List.length_nil]
    omega
theorem com_len : ∀ (ns : List Int), (∀ x ∈ ns, NuOk x) → (comP ns).length ≤ 2000 * (comT ns).length
  | [], _ => Nat.le_refl _
  | m :: ns, hs => by
    have a1 := (hs m (by simp)).2
    have a2 := com_len ns (fun x hx => hs x (by simp [hx]))
    simp only [comP, comT, List.length_append, List.length_cons]
    omega
theorem hd_len (w : List UInt8) (hw : w.length ≤ 20) {nm : ByteArray} (h1 : NmOk nm) : (hdP w nm).length ≤ 2000 := by
  have a1 := nm_len h1
  unfold hdP
  simp only [List.length_append, List.length_cons, List.length_nil]
  omega
theorem shut_len (n : Nat) : (lineL n shutP).length = 2 * n + 2 := by unfold lineL shutP flatB; simp [bl]
theorem it_len (it : It) (h : ItOk it) : (itP it).length ≤ 10000 * (itT it).length := by
  cases it with
  | pl f =>
    have a1 := fd_len h
    simp only [itP, itT, fdT, valT, indL_len, List.length_cons, List.length_nil]
    omega
  | rp f =>
    have a1 := fd_len h
    simp only [itP, itT, fdT, valT, indL_len, wRep, List.length_append, List.length_cons, List.length_nil]
    omega
  | mp k f =>
    have a0 := nm_len h.1
    have a1 := nm_len h.2.1
    have a2 := val_len h.2.2.1 h.2.2.2
    simp only [itP, itT, mpP, valT, indL_len, wMap, List.length_append, List.length_cons, List.length_nil]
    omega
  | on nm fs =>
    have a1 := hd_len wOneof (by decide) h.1
    have a2 := fds_len fs h.2
    simp only [itP, itT, indL_len, List.length_append, List.length_cons, List.length_nil, shut_len]
    omega
  | rs n ns =>
    have a1 := h.1.2
    have a2 := com_len ns h.2
    simp only [itP, itT, rsP, indL_len, wRes, List.length_append, List.length_cons, List.length_nil]
    omega
theorem its_len : ∀ l : List It, (∀ x ∈ l, ItOk x) → (itsP l).length ≤ 10000 * (itsT l).length
  | [], _ => Nat.zero_le _
  | x :: r, h => by
    have a1 := it_len x (h x (by simp))
    have a2 := its_len r (fun y hy => h y (by simp [hy]))
    simp only [itsP, itsT, List.length_append]
    omega
theorem vals_len : ∀ l : List (ByteArray × Int), (∀ x ∈ l, VOk x) → (valsP l).length ≤ 10000 * (valsT l).length
  | [], _ => Nat.zero_le _
  | v :: r, h => by
    have a1 := val_len (h v (by simp)).1 (h v (by simp)).2
    have a2 := vals_len r (fun y hy => h y (by simp [hy]))
    simp only [valsP, valsT, valT, List.length_append, indL_len, List.length_cons, List.length_nil]
    omega
theorem tp_len (x : Tp) (h : TpOk x) : (tpP x).length ≤ 10000 * (tpT x).length := by
  cases x with
  | ms nm its =>
    have a1 := hd_len wMsg (by decide) h.1
    have a2 := its_len its (fun y hy => (h.2 y hy).1)
    simp only [tpP, tpT, List.length_append, List.length_cons, List.length_nil, shut_len]
    omega
  | en nm vs =>
    have a1 := hd_len wEnum (by decide) h.1
    have a2 := vals_len vs h.2
    simp only [tpP, tpT, List.length_append, List.length_cons, List.length_nil, shut_len]
    omega
theorem tps_len : ∀ l : List Tp, (∀ x ∈ l, TpOk x) → (tpsP l).length ≤ 10000 * (tpsT l).length
  | [], _ => Nat.zero_le _
  | x :: r, h => by
    have a1 := tp_len x (h x (by simp))
    have a2 := tps_len r (fun y hy => h y (by simp [hy]))
    simp only [tpsP, tpsT, List.length_append]
    omega
end Go.Proofs.YtddpjjhekhompaaGreatDoor.P
namespace Go.Proofs.YtddpjjhekhompaaGreatDoor.P
open Go.RowKit Go.Proofs.YtddpjjhekhompaaGreatDoorW.PrintWords Go.Proofs.YtddpjjhekhompaaGreatDoorW.PrintLast Go.Proofs.YtddpjjhekhompaaGreatDoorW.PrintMore
set_option linter.unusedVariables false
set_option linter.unusedSimpArgs false
def rpF (f : Fd) : FieldS := ⟨f.1, ⟨#[]⟩, true, 0, f.2.1, f.2.2, 0⟩
def mpF (k : ByteArray) (f : Fd) : FieldS := ⟨f.1, k, false, 0, f.2.1, f.2.2, 0⟩
def fsOf : Nat → List It → List FieldS
  | _, [] => []
  | k, .pl f :: r => fdF 0 f :: fsOf k r
  | k, .rp f :: r => rpF f :: fsOf k r
  | k, .mp y f :: r => mpF y f :: fsOf k r
  | k, .on _ fs :: r => fs.map (fdF ((k : Int) + 1)) ++ fsOf (k + 1) r
  | k, .rs _ _ :: r => fsOf k r
def onsOf : List It → List ByteArray
  | [] => []
  | .on nm _ :: r => nm :: onsOf r
  | .pl _ :: r => onsOf r
  | .rp _ :: r => onsOf r
  | .mp _ _ :: r => onsOf r
  | .rs _ _ :: r => onsOf r
def resOf : List It → List Int
  | [] => []
  | .rs n ns :: r => n :: ns ++ resOf r
  | .pl _ :: r => resOf r
  | .rp _ :: r => resOf r
  | .mp _ _ :: r => resOf r
  | .on _ _ :: r => resOf r
theorem fold_its : ∀ (l : List It) (m : MAcc), l.foldl addI m = (m.1 ++ fsOf m.2.1.length l, m.2.1 ++ onsOf l, m.2.2 ++ resOf l)
  | [], m => by simp [fsOf, onsOf, resOf]
  | .pl f :: r, m => by rw [List.foldl_cons, fold_its r]; simp [fsOf, onsOf, resOf, addI]
  | .rp f :: r, m => by rw [List.foldl_cons, fold_its r]; simp [fsOf, onsOf, resOf, addI, rpF]
  | .mp k f :: r, m => by rw [List.foldl_cons, fold_its r]; simp [fsOf, onsOf, resOf, addI, mpF]
  | .on nm fs :: r, m => by rw [List.foldl_cons, fold_its r]; simp [fsOf, onsOf, resOf, addI]
  | .rs n ns :: r, m => by rw [List.foldl_cons, fold_its r]; simp [fsOf, onsOf, resOf, addI]
def noRs : It → Bool
  | .rs _ _ => false
  | _ => true
def resI : List Int → List It
  | [] => []
  | n :: ns => [.rs n ns]
def can (l : List It) : List It := l.filter noRs ++ resI (resOf l)
theorem fs_app : ∀ (a b : List It) (k : Nat), fsOf k (a ++ b) = fsOf k a ++ fsOf (k + (onsOf a).length) b
  | [], b, k => rfl
  | .pl f :: r, b, k => by simp [fsOf, onsOf, fs_app r b]
  | .rp f :: r, b, k => by simp [fsOf, onsOf, fs_app r b]
  | .mp y f :: r, b, k => by simp [fsOf, onsOf, fs_app r b]
  | .on nm fs :: r, b, k => by simp only [List.cons_append, fsOf, onsOf, fs_app r b, List.append_assoc, List.length_cons]; rw [show k + 1 + (onsOf r).length = k + ((onsOf r).length + 1) from by omega]
  | .rs n ns :: r, b, k => by simp [fsOf, onsOf, fs_app r b]
theorem ons_app : ∀ (a b : List It), onsOf (a ++ b) = onsOf a ++ onsOf b
  | [], b => rfl
  | .pl f :: r, b => by simp [onsOf, ons_app r b]
  | .rp f :: r, b => by simp [onsOf, ons_app r b]
  | .mp y f :: r, b => by simp [onsOf, ons_app r b]
  | .on nm fs :: r, b => by simp [onsOf, ons_app r b]
  | .rs n ns :: r, b => by simp [onsOf, ons_app r b]
theorem res_app : ∀ (a b : List It), resOf (a ++ b) = resOf a ++ resOf b
  | [], b => rfl
  | .pl f :: r, b => by simp [resOf, res_app r b]
  | .rp f :: r, b => by simp [resOf, res_app r b]
  | .mp y f :: r, b => by simp [resOf, res_app r b]
  | .on nm fs :: r, b => by simp [resOf, res_app r b]
  | .rs n ns :: r, b => by simp [resOf, res_app r b]
theorem no_fs : ∀ (l : List It) (k : Nat), fsOf k (l.filter noRs) = fsOf k l
  | [], _ => rfl
  | .pl f :: r, k => by rw [List.filter_cons_of_pos (by rfl)]; simp [fsOf, no_fs r]
  | .rp f :: r, k => by rw [List.filter_cons_of_pos (by rfl)]; simp [fsOf, no_fs r]
  | .mp y f :: r, k => by rw [List.filter_cons_of_pos (by rfl)]; simp [fsOf, no_fs r]
  | .on nm fs :: r, k => by rw [List.filter_cons_of_pos (by rfl)]; simp [fsOf, no_fs r]
  | .rs n ns :: r, k => by rw [List.filter_cons_of_neg (by simp [noRs])]; simp [fsOf, no_fs r]
theorem no_ons : ∀ (l : List It), onsOf (l.filter noRs) = onsOf l
  | [] => rfl
  | .pl f :: r => by rw [List.filter_cons_of_pos (by rfl)]; simp [onsOf, no_ons r]
  | .rp f :: r => by rw [List.filter_cons_of_pos (by rfl)]; simp [onsOf, no_ons r]
  | .mp y f :: r => by rw [List.filter_cons_of_pos (by rfl)]; simp [onsOf, no_ons r]
  | .on nm fs :: r => by rw [List.filter_cons_of_pos (by rfl)]; simp [onsOf, no_ons r]
  | .rs n ns :: r => by rw [List.filter_cons_of_neg (by simp [noRs])]; simp [onsOf, no_ons r]
theorem no_res : ∀ (l : List It), resOf (l.filter noRs) = []
  | [] => rfl
  | .pl f :: r => by rw [List.filter_cons_of_pos (by rfl)]; simp [resOf, no_res r]
  | .rp f :: r => by rw [List.filter_cons_of_pos (by rfl)]; simp [resOf, no_res r]
  | .mp y f :: r => by rw [List.filter_cons_of_pos (by rfl)]; simp [resOf, no_res r]
  | .on nm fs :: r => by rw [List.filter_cons_of_pos (by rfl)]; simp [resOf, no_res r]
  | .rs n ns :: r => by rw [List.filter_cons_of_neg (by simp [noRs])]; simp [no_res r]
theorem resI_parts (l : List Int) (k : Nat) : fsOf k (resI l) = [] ∧ onsOf (resI l) = [] ∧ resOf (resI l) = l := by
  cases l with
  | nil => exact ⟨rfl, rfl, rfl⟩
  | cons n ns => exact ⟨rfl, rfl, by simp [resI, resOf]⟩
theorem can_fold (l : List It) : (can l).foldl addI ([], [], []) = l.foldl addI ([], [], []) := by
  rw [fold_its, fold_its]
  unfold can
  rw [fs_app, ons_app, res_app, no_fs, no_ons, no_res, (resI_parts _ _).1, (resI_parts _ 0).2.1, (resI_parts _ 0).2.2]
  simp
theorem comT_len : ∀ a : List Int, (comT a).length = 2 * a.length
  | [] => rfl
  | x :: r => by simp only [comT, List.length_cons, comT_len r]; omega
theorem resI_len (l : List Int) : (itsT (resI l)).length ≤ 2 * l.length + 1 := by
  cases l with
  | nil => exact Nat.zero_le _
  | cons n ns => simp only [resI, itsT, itT, List.append_nil, List.length_cons, List.length_append, List.length_nil, comT_len]; omega
theorem can_len (l : List It) : (itsT (can l)).length ≤ (itsT l).length := by
  have h : ∀ l : List It, (itsT (l.filter noRs)).length + 2 * (resOf l).length + (if resOf l = [] then 0 else 1) ≤ (itsT l).length := by
    intro l
    induction l with
    | nil => exact Nat.le_refl _
    | cons x r ih =>
      cases x with
      | rs n ns =>
        rw [List.filter_cons_of_neg (by simp [noRs]), itsT, resOf, if_neg (by simp)]
        simp only [itT, List.length_append, List.length_cons, List.length_nil, comT_len]
        omega
      | _ =>
        rw [List.filter_cons_of_pos (by rfl), itsT, itsT, resOf, List.length_append, List.length_append]
        omega
  have h2 : ∀ a b : List It, (itsT (a ++ b)).length = (itsT a).length + (itsT b).length := by
    intro a b
    rw [itsT_flat, itsT_flat, itsT_flat, List.map_append, List.flatten_append, List.length_append]
  unfold can
  rw [h2]
  have h3 := h l
  cases hr : resOf l with
  | nil =>
    have : (itsT (resI [])).length = 0 := rfl
    rw [hr] at h3
    simp only [List.length_nil, if_true] at h3
    omega
  | cons n ns =>
    have h4 := resI_len (n :: ns)
    rw [hr, if_neg (by simp)] at h3
    omega
theorem res_ok : ∀ l : List It, (∀ x ∈ l, ItOk x) → ∀ n ∈ resOf l, NuOk n
  | [], _, _, hn => absurd hn List.not_mem_nil
  | .pl f :: r, h, n, hn => res_ok r (fun x hx => h x (by simp [hx])) n hn
  | .rp f :: r, h, n, hn => res_ok r (fun x hx => h x (by simp [hx])) n hn
  | .mp y f :: r, h, n, hn => res_ok r (fun x hx => h x (by simp [hx])) n hn
  | .on nm fs :: r, h, n, hn => res_ok r (fun x hx => h x (by simp [hx])) n hn
  | .rs m ns :: r, h, n, hn => by
    have h1 : NuOk m ∧ ∀ x ∈ ns, NuOk x := h (.rs m ns) (by simp)
    rcases List.mem_append.1 (show n ∈ m :: ns ++ resOf r from hn) with hn | hn
    · rcases List.mem_cons.1 hn with rfl | hn
      · exact h1.1
      · exact h1.2 n hn
    · exact res_ok r (fun x hx => h x (by simp [hx])) n hn
theorem can_ok (l : List It) (h : ∀ x ∈ l, ItOk x ∧ itW x) : ∀ x ∈ can l, ItOk x ∧ itW x := by
  intro x hx
  unfold can at hx
  rcases List.mem_append.1 hx with hx | hx
  · exact h x (List.mem_filter.1 hx).1
  · have h2 := res_ok l (fun y hy => (h y hy).1)
    cases hr : resOf l with
    | nil => rw [hr] at hx; exact absurd hx List.not_mem_nil
    | cons n ns =>
      rw [hr] at hx h2
      obtain rfl := List.mem_singleton.1 hx
      exact ⟨⟨h2 n (by simp), fun y hy => h2 y (by simp [hy])⟩, trivial⟩
theorem parts_st (f : FieldS) : fieldParts (stF f) = fieldParts f := rfl
theorem grp_st (o : Int) : ∀ l : List FieldS, grpL o (l.map stF) = grpL o l
  | [] => rfl
  | f :: r => by rw [List.map_cons, grpL, grpL, grp_st o r]; rfl
theorem seen_st (m : MsgS) (i : Nat) (o : Int) : seenL (stM m) i o = seenL m i o := by
  unfold seenL
  have h : ∀ l : List FieldS, (l.map stF).any (fun g => g.f3 == o) = l.any (fun g => g.f3 == o) := by
    intro l
    rw [List.any_map]
    rfl
  rw [show (stM m).f1 = m.f1.map stF from rfl, ← List.map_take, h]
  rfl
theorem one_st (m : MsgS) (o : Int) : oneL (stM m) o = oneL m o := by
  unfold oneL
  rw [show (stM m).f1 = m.f1.map stF from rfl, grp_st]
  rfl
theorem piece_st (m : MsgS) (i : Nat) (f : FieldS) : pieceL (stM m) i (stF f) = pieceL m i f := by
  unfold pieceL
  rw [show (stF f).f3 = f.f3 from rfl, seen_st, one_st, parts_st]
  rfl
theorem out_st (m : MsgS) : ∀ i, outL (stM m) i = outL m i
  | 0 => rfl
  | i + 1 => by
    rw [outL, outL, out_st m i, show (stM m).f1 = m.f1.map stF from rfl, List.getElem?_map]
    cases m.f1[i]? with
    | none => rfl
    | some f => simp only [Option.map_some, piece_st]
theorem msg_st (m : MsgS) : msgL (stM m) = msgL m := by
  unfold msgL
  rw [out_st, show (stM m).f1 = m.f1.map stF from rfl, List.length_map]
  rfl
theorem enum_st (m : EnumS) : enumL (stE m) = enumL m := by
  unfold enumL
  have h : ∀ l : List ValS, flatL valL (l.map stV) = flatL valL l := by
    intro l
    unfold flatL
    rw [List.map_map]
    rfl
  rw [show (stE m).f1 = m.f1.map stV from rfl, h]
  rfl
theorem flat_st {α : Type} (g : α → List UInt8) (st : α → α) (h : ∀ x, g (st x) = g x) (l : List α) : flatL g (l.map st) = flatL g l := by
  unfold flatL
  rw [List.map_map]
  congr 1
  exact List.map_congr_left fun x _ => h x
def pcs (m : MsgS) : Nat → List FieldS → List UInt8
  | _, [] => []
  | i, f :: r => pieceL m i f ++ pcs m (i + 1) r
theorem pcs_app (m : MsgS) : ∀ (a b : List FieldS) (i : Nat), pcs m i (a ++ b) = pcs m i a ++ pcs m (i + a.length) b
  | [], b, i => rfl
  | f :: r, b, i => by rw [List.cons_append, pcs, pcs, pcs_app m r b, List.append_assoc, List.length_cons, show i + 1 + r.length = i + (r.length + 1) from by omega]
theorem out_pcs (m : MsgS) : ∀ (n i : Nat), i + n = m.f1.length → outL m m.f1.length = outL m i ++ pcs m i (m.f1.drop i)
  | 0, i, h => by
    rw [List.drop_of_length_le (by omega)]
    rw [show m.f1.length = i from by omega]
    simp [pcs]
  | n + 1, i, h => by
    have hi : i < m.f1.length := by omega
    rw [out_pcs m n (i + 1) (by omega), outL_step m i hi, List.drop_eq_getElem_cons hi, pcs, List.append_assoc]
theorem out_all (m : MsgS) : outL m m.f1.length = pcs m 0 m.f1 := by
  have := out_pcs m m.f1.length 0 (by omega)
  simpa [outL] using this
theorem grp_none (o : Int) : ∀ l : List FieldS, (∀ f ∈ l, f.f3 ≠ o) → grpL o l = []
  | [], _ => rfl
  | f :: r, h => by rw [grpL, if_neg (h f (by simp)), grp_none o r (fun g hg => h g (by simp [hg]))]; rfl
theorem line_fd (n : Nat) (one : Int) (f : Fd) : lineL n (fieldParts (fdF one f)) = indL n (fdP f) := by
  unfold lineL fieldParts kindB fdF indL fdP valP flatB
  rw [if_neg (by rw [toList_bl]; exact fun h => h rfl), if_neg Bool.false_ne_true]
  simp [dig, bl]
theorem line_rp (n : Nat) (f : Fd) : lineL n (fieldParts (rpF f)) = indL n (wRep ++ 32 :: fdP f) := by
  unfold lineL fieldParts kindB rpF indL fdP valP flatB wRep
  rw [if_neg (by rw [toList_bl]; exact fun h => h rfl), if_pos rfl]
  simp [dig, bl]
theorem line_mp (n : Nat) (k : ByteArray) (f : Fd) (hk : bl k ≠ []) : lineL n (fieldParts (mpF k f)) = indL n (mpP k f) := by
  unfold lineL fieldParts kindB mpF indL mpP valP flatB wMap
  rw [if_pos (by rw [toList_bl]; exact hk)]
  simp [dig, bl]
theorem grp_fds (o : Int) : ∀ fs : List Fd, grpL o (fs.map (fdF o)) = fdsP fs
  | [] => rfl
  | f :: r => by
    have e : (fdF o f).f3 = o := rfl
    rw [List.map_cons, grpL, if_pos e, grp_fds o r, line_fd]; rfl
theorem fs_one : ∀ (l : List It) (k : Nat), ∀ f ∈ fsOf k l, f.f3 = 0 ∨ (k : Int) + 1 ≤ f.f3
  | [], _, _, h => absurd h List.not_mem_nil
  | .pl g :: r, k, f, h => by
    rcases List.mem_cons.1 (show f ∈ fdF 0 g :: fsOf k r from h) with rfl | h
    · exact .inl rfl
    · exact fs_one r k f h
  | .rp g :: r, k, f, h => by
    rcases List.mem_cons.1 (show f ∈ rpF g :: fsOf k r from h) with rfl | h
    · exact .inl rfl
    · exact fs_one r k f h
  | .mp y g :: r, k, f, h => by
    rcases List.mem_cons.1 (show f ∈ mpF y g :: fsOf k r from h) with rfl | h
    · exact .inl rfl
    · exact fs_one r k f h
  | .on nm fs :: r, k, f, h => by
    rcases List.mem_append.1 (show f ∈ fs.map (fdF ((k : Int) + 1)) ++ fsOf (k + 1) r from h) with h | h
    · obtain ⟨g, _, rfl⟩ := List.mem_map.1 h
      exact .inr (Int.le_refl _)
    · rcases fs_one r (k + 1) f h with h | h
      · exact .inl h
      · exact .inr (by omega)
  | .rs n ns :: r, k, f, h => fs_one r k f h
theorem fs_most : ∀ (l : List It) (k : Nat), ∀ f ∈ fsOf k l, 0 ≤ f.f3 ∧ f.f3 ≤ (k : Int) + (onsOf l).length
  | [], _, _, h => absurd h List.not_mem_nil
  | .pl g :: r, k, f, h => by
    rcases List.mem_cons.1 (show f ∈ fdF 0 g :: fsOf k r from h) with rfl | h
    · exact ⟨Int.le_refl _, by show (0 : Int) ≤ _; omega⟩
    · exact fs_most r k f h
  | .rp g :: r, k, f, h => by
    rcases List.mem_cons.1 (show f ∈ rpF g :: fsOf k r from h) with rfl | h
    · exact ⟨Int.le_refl _, by show (0 : Int) ≤ _; omega⟩
    · exact fs_most r k f h
  | .mp y g :: r, k, f, h => by
    rcases List.mem_cons.1 (show f ∈ mpF y g :: fsOf k r from h) with rfl | h
    · exact ⟨Int.le_refl _, by show (0 : Int) ≤ _; omega⟩
    · exact fs_most r k f h
  | .on nm fs :: r, k, f, h => by
    rcases List.mem_append.1 (show f ∈ fs.map (fdF ((k : Int) + 1)) ++ fsOf (k + 1) r from h) with h | h
    · obtain ⟨g, _, rfl⟩ := List.mem_map.1 h
      rw [onsOf, List.length_cons]
      show (0 : Int) ≤ (k : Int) + 1 ∧ (k : Int) + 1 ≤ _
      omega
    · have := fs_most r (k + 1) f h
      rw [onsOf, List.length_cons]
      omega
  | .rs n ns :: r, k, f, h => fs_most r k f h
def full (l : List It) : Prop := ∀ nm fs, It.on nm fs ∈ l → fs ≠ []
theorem full_of : ∀ (l : List It) (k : Nat), (∀ o : Int, (k : Int) + 1 ≤ o → o ≤ (k : Int) + (onsOf l).length → ∃ g ∈ fsOf k l, g.f3 = o) → full l
  | [], _, _, _, _, h => absurd h List.not_mem_nil
  | .pl f :: r, k, h, nm, fs, hm => by
    rcases List.mem_cons.1 hm with hm | hm
    · cases hm
    · refine full_of r k (fun o h1 h2 => ?_) nm fs hm
      obtain ⟨g, hg, e⟩ := h o h1 h2
      rcases List.mem_cons.1 (show g ∈ fdF 0 f :: fsOf k r from hg) with rfl | hg
      · have : (0 : Int) = o := e
        omega
      · exact ⟨g, hg, e⟩
  | .rp f :: r, k, h, nm, fs, hm => by
    rcases List.mem_cons.1 hm with hm | hm
    · cases hm
    · refine full_of r k (fun o h1 h2 => ?_) nm fs hm
      obtain ⟨g, hg, e⟩ := h o h1 h2
      rcases List.mem_cons.1 (show g ∈ rpF f :: fsOf k r from hg) with rfl | hg
      · have : (0 : Int) = o := e
        omega
      · exact ⟨g, hg, e⟩
  | .mp y f :: r, k, h, nm, fs, hm => by
    rcases List.mem_cons.1 hm with hm | hm
    · cases hm
    · refine full_of r k (fun o h1 h2 => ?_) nm fs hm
      obtain ⟨g, hg, e⟩ := h o h1 h2
      rcases List.mem_cons.1 (show g ∈ mpF y f :: fsOf k r from hg) with rfl | hg
      · have : (0 : Int) = o := e
        omega
      · exact ⟨g, hg, e⟩
  | .rs n ns :: r, k, h, nm, fs, hm => by
    rcases List.mem_cons.1 hm with hm | hm
    · cases hm
    · exact full_of r k h nm fs hm
  | .on nm0 fs0 :: r, k, h, nm, fs, hm => by
    rw [onsOf, List.length_cons] at h
    rcases List.mem_cons.1 hm with hm | hm
    · injection hm with _ hm
      rintro rfl
      subst hm
      obtain ⟨g, hg, e⟩ := h ((k : Int) + 1) (Int.le_refl _) (by omega)
      rcases fs_one r (k + 1) g hg with h1 | h1 <;> omega
    · refine full_of r (k + 1) (fun o h1 h2 => ?_) nm fs hm
      obtain ⟨g, hg, e⟩ := h o (by omega) (by omega)
      rcases List.mem_append.1 (show g ∈ fs0.map (fdF ((k : Int) + 1)) ++ fsOf (k + 1) r from hg) with hg | hg
      · obtain ⟨y, _, rfl⟩ := List.mem_map.1 hg
        have : (k : Int) + 1 = o := e
        omega
      · exact ⟨g, hg, e⟩
theorem pcs_old (m : MsgS) (o : Int) (ho : inO m o = true) : ∀ (l : List FieldS) (i : Nat), (∀ f ∈ l, f.f3 = o) → (m.f1.take i).any (fun g => g.f3 == o) = true → pcs m i l = []
  | [], _, _, _ => rfl
  | f :: r, i, h, hs => by
    have h1 : seenL m i o = true := by unfold seenL; rw [ho, hs]; rfl
    have h2 : (m.f1.take (i + 1)).any (fun g => g.f3 == o) = true := by
      rw [List.any_eq_true] at hs ⊢
      obtain ⟨g, hg, e⟩ := hs
      refine ⟨g, ?_, e⟩
      have : m.f1.take i = (m.f1.take (i + 1)).take i := by rw [List.take_take, Nat.min_eq_left (by omega)]
      rw [this] at hg
      exact List.mem_of_mem_take hg
    rw [pcs, pcs_old m o ho r (i + 1) (fun g hg => h g (by simp [hg])) h2]
    unfold pieceL
    rw [h f (by simp), ho, if_neg (by decide), if_pos h1]
    rfl
theorem head_of (w : List UInt8) (nm : ByteArray) (n : Nat) : lineL n [⟨(w ++ [32]).toArray⟩, nm, ⟨#[32, 123]⟩] = indL n (hdP w nm) := by
  unfold lineL indL hdP flatB
  simp [bl]
theorem pcs_its (m : MsgS) : ∀ (l : List It) (k : Nat) (A : List FieldS) (on : List ByteArray), m.f1 = A ++ fsOf k l → m.f2 = on ++ onsOf l → on.length = k → (∀ f ∈ A, f.f3 ≤ k) → full l → (∀ x ∈ l, ItOk x) → pcs m A.length (fsOf k l) = itsP (l.filter noRs) := by
  intro l
  induction l with
  | nil => intros; rfl
  | cons x r ih =>
    intro k A on h1 h2 h3 h4 h5 h6
    have hr : full r := fun nm fs hm => h5 nm fs (by simp [hm])
    have hr6 : ∀ x ∈ r, ItOk x := fun y hy => h6 y (by simp [hy])
    have hflat : ∀ g : FieldS, g.f3 = 0 → m.f1 = A ++ g :: fsOf k r → m.f2 = on ++ onsOf r → pcs m A.length (g :: fsOf k r) = lineL 1 (fieldParts g) ++ itsP (r.filter noRs) := by
      intro g hg hm1 hm2
      have hi := ih k (A ++ [g]) on (by rw [hm1]; simp) hm2 h3 (fun f hf => by
        rcases List.mem_append.1 hf with hf | hf
        · exact h4 f hf
        · obtain rfl := List.mem_singleton.1 hf
          omega) hr hr6
      rw [List.length_append, List.length_cons, List.length_nil] at hi
      rw [pcs, hi]
      unfold pieceL
      have : inO m g.f3 = false := by unfold inO; rw [hg]; rfl
      rw [if_pos this]
    cases x with
    | pl f =>
      rw [List.filter_cons_of_pos (by rfl)]
      show pcs m A.length (fdF 0 f :: fsOf k r) = indL 1 (fdP f) ++ _
      rw [hflat _ rfl h1 h2, line_fd]
    | rp f =>
      rw [List.filter_cons_of_pos (by rfl)]
      show pcs m A.length (rpF f :: fsOf k r) = indL 1 (wRep ++ 32 :: fdP f) ++ _
      rw [hflat _ rfl h1 h2, line_rp]
    | mp y f =>
      rw [List.filter_cons_of_pos (by rfl)]
      show pcs m A.length (mpF y f :: fsOf k r) = indL 1 (mpP y f) ++ _
      have hk : bl y ≠ [] := by
        have h7 : NmOk y := (h6 (.mp y f) (by simp)).1
        intro e
        have h8 := h7.1
        rw [e] at h8
        cases h8
      rw [hflat _ rfl h1 h2, line_mp _ _ _ hk]
    | rs n ns =>
      rw [List.filter_cons_of_neg (by simp [noRs])]
      exact ih k A on h1 h2 h3 h4 hr hr6
    | on nm fs =>
      rw [List.filter_cons_of_pos (by rfl)]
      show pcs m A.length (fs.map (fdF ((k : Int) + 1)) ++ fsOf (k + 1) r) = (indL 1 (hdP wOneof nm) ++ (fdsP fs ++ lineL 1 shutP)) ++ itsP (r.filter noRs)
      have hne : fs ≠ [] := h5 nm fs (by simp)
      have hm1 : m.f1 = A ++ (fs.map (fdF ((k : Int) + 1)) ++ fsOf (k + 1) r) := h1
      have hm2 : m.f2 = on ++ nm :: onsOf r := h2
      have hi := ih (k + 1) (A ++ fs.map (fdF ((k : Int) + 1))) (on ++ [nm]) (by rw [hm1]; simp) (by rw [hm2]; simp) (by simp [h3]) (fun f hf => by
        rcases List.mem_append.1 hf with hf | hf
        · have := h4 f hf; omega
        · obtain ⟨g, _, rfl⟩ := List.mem_map.1 hf
          show (k : Int) + 1 ≤ _
          omega) hr hr6
      rw [List.length_append] at hi
      rw [pcs_app, hi]
      congr 1
      have ho : inO m ((k : Int) + 1) = true := by
        unfold inO
        rw [hm2]
        simp only [List.length_append, List.length_cons, Bool.and_eq_true, decide_eq_true_eq]
        omega
      cases fs with
      | nil => exact absurd rfl hne
      | cons f0 fs' =>
        rw [List.map_cons, pcs]
        have hold : pcs m (A.length + 1) (fs'.map (fdF ((k : Int) + 1))) = [] := by
          refine pcs_old m _ ho _ _ (fun g hg => ?_) ?_
          · obtain ⟨y, _, rfl⟩ := List.mem_map.1 hg
            rfl
          · rw [hm1, List.map_cons, List.cons_append, show A ++ fdF ((k : Int) + 1) f0 :: (fs'.map (fdF ((k : Int) + 1)) ++ fsOf (k + 1) r) = (A ++ [fdF ((k : Int) + 1) f0]) ++ (fs'.map (fdF ((k : Int) + 1)) ++ fsOf (k + 1) r) from by simp, List.take_left' (by simp), List.any_append]
            simp [fdF]
        rw [hold, List.append_nil]
        unfold pieceL
        rw [show (fdF ((k : Int) + 1) f0).f3 = (k : Int) + 1 from rfl, ho, if_neg (by decide)]
        have hs : seenL m A.length ((k : Int) + 1) = false := by
          unfold seenL
          rw [hm1, List.take_left' rfl]
          have : A.any (fun g => g.f3 == (k : Int) + 1) = false := by
            rw [List.any_eq_false]
            intro g hg
            have := h4 g hg
            rw [beq_iff_eq]
            omega
          rw [this, Bool.and_false]
        rw [hs, if_neg (by decide)]
        unfold oneL
        rw [hm1, grpL_append, grpL_append, grp_fds, grp_none _ A (fun f hf => by have := h4 f hf; omega), grp_none _ (fsOf (k + 1) r) (fun f hf => by rcases fs_one r (k + 1) f hf with h | h <;> omega)]
        have hp : lineL 1 (onePre m ((k : Int) + 1)) = indL 1 (hdP wOneof nm) := by
          rw [← head_of]
          unfold onePre
          have : m.f2.getD ((k : Int) + 1 - 1).toNat ⟨#[]⟩ = nm := by
            rw [hm2, show ((k : Int) + 1 - 1).toNat = on.length from by omega]
            simp [List.getD_eq_getElem?_getD]
          rw [this]
          rfl
        rw [hp]
        simp only [List.nil_append, List.append_nil, List.append_assoc]
theorem join_com : ∀ (ns : List Int), Lib.joinTail [44, 32] ((ns.map dig).map (·.data.toList)) = comP ns
  | [] => rfl
  | n :: r => by
    have h := join_com r
    unfold Lib.joinTail at h ⊢
    rw [List.map_cons, List.map_cons, List.map_cons, List.flatten_cons, h, comP]
    rfl
theorem res_line (n : Int) (ns : List Int) (m : MsgS) (h : m.f3 = n :: ns) : resL m = indL 1 (rsP n ns) := by
  unfold resL resPre
  rw [if_neg (by rw [h]; simp), h]
  have e : bl (joinB ((n :: ns).map dig)) = Lib.itoa n ++ comP ns := by
    unfold joinB
    rw [List.map_cons, List.map_cons, Lib.join_cons, join_com]
    rfl
  unfold lineL indL rsP flatB wRes
  rw [List.map_cons] at e
  simp only [List.map_cons, List.map_nil, List.flatten_cons, List.flatten_nil, List.append_nil]
  rw [e]
  simp [bl]
theorem msg_text (nm : ByteArray) (its : List It) (h5 : full its) (h6 : ∀ x ∈ its, ItOk x) : msgL ⟨nm, fsOf 0 its, onsOf its, resOf its, 0⟩ = tpP (.ms nm (can its)) := by
  have h := pcs_its ⟨nm, fsOf 0 its, onsOf its, resOf its, 0⟩ its 0 [] [] rfl rfl rfl (fun _ hf => absurd hf List.not_mem_nil) h5 h6
  unfold msgL
  rw [out_all]
  show lineL 0 [⟨(wMsg ++ [32]).toArray⟩, nm, ⟨#[32, 123]⟩] ++ pcs _ 0 (fsOf 0 its) ++ _ ++ _ = hdP wMsg nm ++ (itsP (can its) ++ lineL 0 shutP)
  have h' : pcs ⟨nm, fsOf 0 its, onsOf its, resOf its, 0⟩ 0 (fsOf 0 its) = itsP (its.filter noRs) := h
  rw [head_of, h']
  have hc : itsP (can its) = itsP (its.filter noRs) ++ itsP (resI (resOf its)) := by
    have h2 : ∀ a b : List It, itsP (a ++ b) = itsP a ++ itsP b := by
      intro a
      induction a with
      | nil => intro b; rfl
      | cons x a ih => intro b; rw [List.cons_append, itsP, itsP, ih, List.append_assoc]
    exact h2 _ _
  rw [hc]
  have hr : resL ⟨nm, fsOf 0 its, onsOf its, resOf its, 0⟩ = itsP (resI (resOf its)) := by
    cases hq : resOf its with
    | nil => rfl
    | cons n ns =>
      rw [res_line n ns _ rfl]
      show _ = indL 1 (rsP n ns) ++ []
      rw [List.append_nil]
  rw [hr]
  simp [indL]
def msOf : List Tp → List MsgS
  | [] => []
  | .ms nm its :: r => ⟨nm, fsOf 0 its, onsOf its, resOf its, 0⟩ :: msOf r
  | .en _ _ :: r => msOf r
def ensOf : List Tp → List EnumS
  | [] => []
  | .ms _ _ :: r => ensOf r
  | .en nm vs :: r => ⟨nm, vs.foldl addV [], 0⟩ :: ensOf r
theorem fold_tps : ∀ (l : List Tp) (f : FileS), l.foldl addT f = (f.1 ++ msOf l, f.2 ++ ensOf l)
  | [], f => by simp [msOf, ensOf]
  | .ms nm its :: r, f => by rw [List.foldl_cons, fold_tps r]; simp [msOf, ensOf, addT, fold_its]
  | .en nm vs :: r, f => by rw [List.foldl_cons, fold_tps r]; simp [msOf, ensOf, addT]
def canMs : List Tp → List Tp
  | [] => []
  | .ms nm its :: r => .ms nm (can its) :: canMs r
  | .en _ _ :: r => canMs r
def canEn : List Tp → List Tp
  | [] => []
  | .ms _ _ :: r => canEn r
  | .en nm vs :: r => .en nm vs :: canEn r
def canT (l : List Tp) : List Tp := canMs l ++ canEn l
theorem can_parts (its : List It) : fsOf 0 (can its) = fsOf 0 its ∧ onsOf (can its) = onsOf its ∧ resOf (can its) = resOf its := by
  have h := can_fold its
  rw [fold_its, fold_its] at h
  simp only [List.nil_append, List.length_nil, Prod.mk.injEq] at h
  exact h
theorem canMs_fold : ∀ l : List Tp, msOf (canMs l) = msOf l ∧ ensOf (canMs l) = []
  | [] => ⟨rfl, rfl⟩
  | .ms nm its :: r => by
    obtain ⟨h1, h2, h3⟩ := can_parts its
    obtain ⟨g1, g2⟩ := canMs_fold r
    exact ⟨by rw [canMs, msOf, msOf, h1, h2, h3, g1], g2⟩
  | .en nm vs :: r => canMs_fold r
theorem canEn_fold : ∀ l : List Tp, msOf (canEn l) = [] ∧ ensOf (canEn l) = ensOf l
  | [] => ⟨rfl, rfl⟩
  | .ms nm its :: r => canEn_fold r
  | .en nm vs :: r => by
    obtain ⟨g1, g2⟩ := canEn_fold r
    exact ⟨g1, by rw [canEn, ensOf, ensOf, g2]⟩
theorem canT_fold (l : List Tp) : (canT l).foldl addT ([], []) = l.foldl addT ([], []) := by
  unfold canT
  rw [List.foldl_append, fold_tps (canMs l), fold_tps (canEn l), fold_tps l, (canMs_fold l).1, (canMs_fold l).2, (canEn_fold l).1, (canEn_fold l).2]
  simp
theorem tpsT_app : ∀ a b : List Tp, tpsT (a ++ b) = tpsT a ++ tpsT b
  | [], b => rfl
  | x :: r, b => by rw [List.cons_append, tpsT, tpsT, tpsT_app r b, List.append_assoc]
theorem tpsP_app : ∀ a b : List Tp, tpsP (a ++ b) = tpsP a ++ tpsP b
  | [], b => rfl
  | x :: r, b => by rw [List.cons_append, tpsP, tpsP, tpsP_app r b, List.append_assoc]
theorem canT_len : ∀ l : List Tp, (tpsT (canT l)).length ≤ (tpsT l).length := by
  intro l
  unfold canT
  rw [tpsT_app, List.length_append]
  induction l with
  | nil => exact Nat.le_refl _
  | cons x r ih =>
    cases x with
    | ms nm its =>
      have := can_len its
      simp only [canMs, canEn, tpsT, tpT, List.length_append, List.length_cons, List.length_nil]
      omega
    | en nm vs =>
      simp only [canMs, canEn, tpsT, List.length_append]
      omega
theorem canT_ok (l : List Tp) (h : ∀ x ∈ l, TpOk x) : ∀ x ∈ canT l, TpOk x := by
  unfold canT
  induction l with
  | nil => intro x hx; exact absurd hx List.not_mem_nil
  | cons y r ih =>
    intro x hx
    have hr := ih (fun z hz => h z (by simp [hz]))
    rcases List.mem_append.1 hx with hx | hx
    · cases y with
      | ms nm its =>
        rcases List.mem_cons.1 hx with rfl | hx
        · have h1 : NmOk nm ∧ ∀ it ∈ its, ItOk it ∧ itW it := h (.ms nm its) (by simp)
          exact ⟨h1.1, can_ok its h1.2⟩
        · exact hr x (List.mem_append_left _ hx)
      | en nm vs => exact hr x (List.mem_append_left _ hx)
    · cases y with
      | ms nm its => exact hr x (List.mem_append_right _ hx)
      | en nm vs =>
        rcases List.mem_cons.1 hx with rfl | hx
        · exact h _ (by simp)
        · exact hr x (List.mem_append_right _ hx)
def fullT : Tp → Prop
  | .ms _ its => full its
  | .en _ _ => True
theorem line_val (v : ByteArray × Int) : valL ⟨v.1, v.2, 0⟩ = indL 1 (valP v.1 v.2) := by
  unfold valL valPre lineL indL valP flatB
  simp [dig, bl]
theorem vals_text : ∀ vs : List (ByteArray × Int), flatL valL (vs.map fun v => (⟨v.1, v.2, 0⟩ : ValS)) = valsP vs
  | [] => rfl
  | v :: r => by
    have h := vals_text r
    unfold flatL at h ⊢
    rw [List.map_cons, List.map_cons, List.flatten_cons, h, line_val]
    rfl
theorem enum_text (nm : ByteArray) (vs : List (ByteArray × Int)) : enumL ⟨nm, vs.foldl addV [], 0⟩ = tpP (.en nm vs) := by
  unfold enumL
  have e : vs.foldl addV [] = vs.map fun v => (⟨v.1, v.2, 0⟩ : ValS) := by
    have := fold_snoc (fun v : ByteArray × Int => (⟨v.1, v.2, 0⟩ : ValS)) vs []
    rw [List.nil_append] at this
    exact this
  show lineL 0 [⟨(wEnum ++ [32]).toArray⟩, nm, ⟨#[32, 123]⟩] ++ flatL valL (vs.foldl addV []) ++ lineL 0 shutP = hdP wEnum nm ++ (valsP vs ++ lineL 0 shutP)
  rw [e, vals_text, head_of, List.append_assoc]
  rfl
theorem file_text : ∀ l : List Tp, (∀ x ∈ l, TpOk x ∧ fullT x) → flatL msgL (msOf l) = tpsP (canMs l) ∧ flatL enumL (ensOf l) = tpsP (canEn l)
  | [], _ => ⟨rfl, rfl⟩
  | .ms nm its :: r, h => by
    obtain ⟨g1, g2⟩ := file_text r (fun x hx => h x (by simp [hx]))
    have h1 : (NmOk nm ∧ ∀ it ∈ its, ItOk it ∧ itW it) ∧ full its := h (.ms nm its) (by simp)
    refine ⟨?_, g2⟩
    unfold flatL at g1 ⊢
    rw [msOf, canMs, tpsP, List.map_cons, List.flatten_cons, g1, msg_text nm its h1.2 (fun x hx => (h1.1.2 x hx).1)]
  | .en nm vs :: r, h => by
    obtain ⟨g1, g2⟩ := file_text r (fun x hx => h x (by simp [hx]))
    refine ⟨g1, ?_⟩
    unfold flatL at g2 ⊢
    rw [ensOf, canEn, tpsP, List.map_cons, List.flatten_cons, g2, enum_text]
theorem print_text (f : FileS) (l : List Tp) (h : ∀ x ∈ l, TpOk x ∧ fullT x) (hf : stFi f = l.foldl addT ([], [])) : printL f.1 f.2 = tpsP (canT l) := by
  rw [fold_tps, List.nil_append, List.nil_append] at hf
  unfold stFi at hf
  simp only [Prod.mk.injEq] at hf
  obtain ⟨h1, h2⟩ := file_text l h
  unfold printL canT
  rw [← flat_st msgL stM msg_st f.1, ← flat_st enumL stE enum_st f.2, hf.1, hf.2, h1, h2, tpsP_app]
end Go.Proofs.YtddpjjhekhompaaGreatDoor.P
namespace Go.Proofs.YtddpjjhekhompaaGreatDoor.P
open Go.RowKit Go.Proofs.YtddpjjhekhompaaGreatDoorW.PrintWords Go.Proofs.YtddpjjhekhompaaGreatDoorW.PrintLast Go.Proofs.YtddpjjhekhompaaGreatDoorW.PrintMore
set_option linter.unusedVariables false
set_option linter.unusedSimpArgs false
theorem allF_scan (s : ByteArray) (h : s.size ≤ 5000) : allF s = endL s [] (scan 1000 0 (bl s)) := by
  have := all_small s h
  unfold token_All.f at this
  exact Option.some.inj this
theorem allEq_self {α : Type} (g : α → α → Bool) (h : ∀ x, g x x = true) : ∀ l : List α, allEq g l l = true
  | [] => rfl
  | x :: r => by rw [allEq, h x, allEq_self g h r]; rfl
theorem tk_all (s : ByteArray) (hs : s.size ≤ 1500) (ts : List TokS) (h : scan 1000 0 (bl s) = .inl ts) : ∀ t ∈ ts, TkOk t := by
  intro t ht
  obtain ⟨f1, _⟩ := scan_facts _ 1000 0 (bl s) ts (Nat.le_refl _) h
  obtain ⟨a, b, _⟩ := f1 t ht
  exact ⟨a, fun q => by have := b q; rw [bl_length] at this; omega⟩
theorem parse_items (s : ByteArray) (hs : s.size ≤ 1500) (h0 : (parseF s).2.2 = 0) : ∃ l, stFi (parseF s).1 = l.foldl addT ([], []) ∧ (∀ x ∈ l, TpOk x) ∧ (tpsT l).length ≤ 1000 := by
  unfold parseF at h0 ⊢
  rw [allF_scan s (by omega)] at h0 ⊢
  cases hB : scan 1000 0 (bl s) with
  | inr x =>
    obtain ⟨q, e⟩ := x
    obtain ⟨h1, h2, h3⟩ := scan_err _ 1000 0 (bl s) q e (Nat.le_refl _) hB
    have he : e ≠ 0 := by omega
    rw [hB, show endL s [] (.inr (q, e)) = ([], (q : Int), e) from rfl, if_pos (show (([], (q : Int), e) : List TokS × Int × Int).2.2 ≠ 0 from he)] at h0
    exact absurd h0 he
  | inl ts =>
    rw [hB, show endL s [] (.inl ts) = (ts, (s.size : Int), 0) from rfl, if_neg (show ¬ ((ts, (s.size : Int), 0) : List TokS × Int × Int).2.2 ≠ 0 from fun h => h rfl)] at h0
    rw [show endL s [] (.inl ts) = (ts, (s.size : Int), 0) from rfl, if_neg (show ¬ ((ts, (s.size : Int), 0) : List TokS × Int × Int).2.2 ≠ 0 from fun h => h rfl)]
    dsimp only at h0 ⊢
    by_cases hb : (pAll (s.size : Int) ts).2.b = true
    · rw [if_pos hb] at h0
      exact absurd (show (4 : Int) = 0 from h0) (by decide)
    · rw [if_neg hb]
      have hb' : (pTop (ts.length + 1) ([], []) (s.size : Int) ⟨ts, false⟩).2.b = false := by simpa [pAll] using hb
      obtain ⟨l, g1, g2, g3⟩ := tps_inv ts.length ([], []) (s.size : Int) ts (ts.length + 1) (Nat.le_refl _) (Nat.lt_succ_self _) hb' (tk_all s hs ts hB)
      refine ⟨l, g1, g2, ?_⟩
      rw [← g3]
      exact (scan_len _ _ _ _ _ (Nat.le_refl _) hB).2
theorem parse_back (l : List Tp) (h : ∀ x ∈ l, TpOk x) (hl : (tpsT l).length ≤ 1000) (t : ByteArray) (ht : bl t = tpsP l) (hs : t.size ≤ 5000) : (parseF t).2.2 = 0 ∧ stFi (parseF t).1 = l.foldl addT ([], []) := by
  obtain ⟨us, u1, u2⟩ := tps_lx l h 1000 0 [] hl
  rw [List.append_nil, scan_nil] at u2
  have hB : scan 1000 0 (bl t) = .inl us := by rw [ht, u2]; simp [preE]
  unfold parseF
  rw [allF_scan t hs, hB, show endL t [] (.inl us) = (us, (t.size : Int), 0) from rfl, if_neg (show ¬ ((us, (t.size : Int), 0) : List TokS × Int × Int).2.2 ≠ 0 from fun h => h rfl)]
  dsimp only
  have hw : ∀ x ∈ l, tpW x := by
    intro x hx
    have := h x hx
    cases x with
    | ms nm its => exact fun it hi => (this.2 it hi).2
    | en nm vs => trivial
  obtain ⟨g1, g2⟩ := tps_run l ([], []) (t.size : Int) us (us.length + 1) hw u1 (Nat.lt_succ_self _)
  have hb : ¬ (pAll (t.size : Int) us).2.b = true := by
    unfold pAll
    rw [g1]
    decide
  rw [if_neg hb]
  exact ⟨rfl, g2⟩
theorem fs_rng : ∀ (l : List It) (k : Nat), (∀ x ∈ l, ItOk x) → ∀ f ∈ fsOf k l, rngI f.f5
  | [], _, _, _, h => absurd h List.not_mem_nil
  | .pl g :: r, k, ho, f, h => by
    rcases List.mem_cons.1 (show f ∈ fdF 0 g :: fsOf k r from h) with rfl | h
    · exact (show FdOk g from ho (.pl g) (by simp)).2.2.1
    · exact fs_rng r k (fun x hx => ho x (by simp [hx])) f h
  | .rp g :: r, k, ho, f, h => by
    rcases List.mem_cons.1 (show f ∈ rpF g :: fsOf k r from h) with rfl | h
    · exact (show FdOk g from ho (.rp g) (by simp)).2.2.1
    · exact fs_rng r k (fun x hx => ho x (by simp [hx])) f h
  | .mp y g :: r, k, ho, f, h => by
    rcases List.mem_cons.1 (show f ∈ mpF y g :: fsOf k r from h) with rfl | h
    · exact (show NmOk y ∧ FdOk g from ho (.mp y g) (by simp)).2.2.2.1
    · exact fs_rng r k (fun x hx => ho x (by simp [hx])) f h
  | .on nm fs :: r, k, ho, f, h => by
    rcases List.mem_append.1 (show f ∈ fs.map (fdF ((k : Int) + 1)) ++ fsOf (k + 1) r from h) with h | h
    · obtain ⟨g, hg, rfl⟩ := List.mem_map.1 h
      exact ((show NmOk nm ∧ ∀ f ∈ fs, FdOk f from ho (.on nm fs) (by simp)).2 g hg).2.2.1
    · exact fs_rng r (k + 1) (fun x hx => ho x (by simp [hx])) f h
  | .rs n ns :: r, k, ho, f, h => fs_rng r k (fun x hx => ho x (by simp [hx])) f h
theorem fds_most : ∀ fs : List Fd, fs.length ≤ (fdsT fs).length
  | [] => Nat.le_refl _
  | f :: r => by have := fds_most r; simp only [fdsT, fdT, valT, List.length_append, List.length_cons, List.length_nil]; omega
theorem parts_most : ∀ (l : List It) (k : Nat), (fsOf k l).length + (onsOf l).length + (resOf l).length ≤ (itsT l).length
  | [], _ => Nat.le_refl _
  | .pl f :: r, k => by have := parts_most r k; simp only [fsOf, onsOf, resOf, itsT, itT, fdT, valT, List.length_append, List.length_cons, List.length_nil]; omega
  | .rp f :: r, k => by have := parts_most r k; simp only [fsOf, onsOf, resOf, itsT, itT, fdT, valT, List.length_append, List.length_cons, List.length_nil]; omega
  | .mp y f :: r, k => by have := parts_most r k; simp only [fsOf, onsOf, resOf, itsT, itT, valT, List.length_append, List.length_cons, List.length_nil]; omega
  | .on nm fs :: r, k => by have := parts_most r (k + 1); have := fds_most fs; simp only [fsOf, onsOf, resOf, itsT, itT, List.length_append, List.length_cons, List.length_nil, List.length_map]; omega
  | .rs n ns :: r, k => by have := parts_most r k; simp only [fsOf, onsOf, resOf, itsT, itT, List.length_append, List.length_cons, List.length_nil, comT_len]; omega
theorem ms_mem : ∀ (l : List Tp) (m : MsgS), m ∈ msOf l → ∃ nm its, Tp.ms nm its ∈ l ∧ m = ⟨nm, fsOf 0 its, onsOf its, resOf its, 0⟩ ∧ (itsT its).length ≤ (tpsT l).length
  | [], _, h => absurd h List.not_mem_nil
  | .ms nm its :: r, m, h => by
    rcases List.mem_cons.1 (show m ∈ (⟨nm, fsOf 0 its, onsOf its, resOf its, 0⟩ : MsgS) :: msOf r from h) with rfl | h
    · exact ⟨nm, its, by simp, rfl, by simp only [tpsT, tpT, List.length_append, List.length_cons]; omega⟩
    · obtain ⟨nm', its', h1, h2, h3⟩ := ms_mem r m h
      exact ⟨nm', its', by simp [h1], h2, by simp only [tpsT, List.length_append]; omega⟩
  | .en nm vs :: r, m, h => by
    obtain ⟨nm', its', h1, h2, h3⟩ := ms_mem r m h
    exact ⟨nm', its', by simp [h1], h2, by simp only [tpsT, List.length_append]; omega⟩
theorem en_mem : ∀ (l : List Tp) (m : EnumS), m ∈ ensOf l → ∃ nm vs, Tp.en nm vs ∈ l ∧ m = ⟨nm, vs.foldl addV [], 0⟩
  | [], _, h => absurd h List.not_mem_nil
  | .en nm vs :: r, m, h => by
    rcases List.mem_cons.1 (show m ∈ (⟨nm, vs.foldl addV [], 0⟩ : EnumS) :: ensOf r from h) with rfl | h
    · exact ⟨nm, vs, by simp, rfl⟩
    · obtain ⟨nm', its', h1, h2⟩ := en_mem r m h
      exact ⟨nm', its', by simp [h1], h2⟩
  | .ms nm vs :: r, m, h => by
    obtain ⟨nm', its', h1, h2⟩ := en_mem r m h
    exact ⟨nm', its', by simp [h1], h2⟩
theorem print_ok (f : FileS) (l : List Tp) (h : ∀ x ∈ l, TpOk x ∧ fullT x) (hl : (tpsT l).length ≤ 1000) (hf : stFi f = l.foldl addT ([], [])) : PrintOk f.1 f.2 := by
  have hp := print_text f l h hf
  have hlen := tps_len (canT l) (canT_ok l (fun x hx => (h x hx).1))
  have hc := canT_len l
  rw [fold_tps, List.nil_append, List.nil_append] at hf
  unfold stFi at hf
  simp only [Prod.mk.injEq] at hf
  obtain ⟨hf1, hf2⟩ := hf
  refine ⟨fun m hm => ?_, fun e he v hv => ?_, by rw [hp]; omega⟩
  · have hm2 : stM m ∈ msOf l := by rw [← hf1]; exact List.mem_map_of_mem hm
    obtain ⟨nm, its, h1, h2, h3⟩ := ms_mem l _ hm2
    have ho : NmOk nm ∧ ∀ it ∈ its, ItOk it ∧ itW it := (h _ h1).1
    have hi : ∀ x ∈ its, ItOk x := fun x hx => (ho.2 x hx).1
    have hq := parts_most its 0
    unfold stM at h2
    simp only [S34.mk.injEq] at h2
    obtain ⟨_, e1, e2, e3, _⟩ := h2
    have l1 := congrArg List.length e1
    rw [List.length_map] at l1
    refine ⟨fun g hg => ?_, fun n hn => ?_, by omega, by rw [e3]; omega⟩
    · have hg2 : stF g ∈ fsOf 0 its := by rw [← e1]; exact List.mem_map_of_mem hg
      have hg3 := fs_rng its 0 hi (stF g) hg2
      refine ⟨hg3, ?_⟩
      have := fs_most its 0 _ hg2
      have e4 : (stF g).f3 = g.f3 := rfl
      rw [e4] at this
      unfold rngI
      omega
    · rw [e3] at hn
      exact (res_ok its hi n hn).1
  · have he2 : stE e ∈ ensOf l := by rw [← hf2]; exact List.mem_map_of_mem he
    obtain ⟨nm, vs, h1, h2⟩ := en_mem l _ he2
    have ho : NmOk nm ∧ ∀ v ∈ vs, VOk v := (h _ h1).1
    have hv2 : stV v ∈ vs.foldl addV [] := by
      have := congrArg (fun x : EnumS => x.f1) h2
      simp only at this
      rw [← this]
      exact List.mem_map_of_mem hv
    have e : vs.foldl addV [] = vs.map fun v => (⟨v.1, v.2, 0⟩ : ValS) := by
      have := fold_snoc (fun v : ByteArray × Int => (⟨v.1, v.2, 0⟩ : ValS)) vs []
      rw [List.nil_append] at this
      exact this
    rw [e] at hv2
    obtain ⟨y, hy, hy2⟩ := List.mem_map.1 hv2
    have e5 : v.f1 = y.2 := by
      have := congrArg (fun x : ValS => x.f1) hy2
      exact this.symm
    rw [e5]
    exact (ho.2 y hy).2.1
theorem allEq_st {α : Type} (g : α → α → Bool) (st : α → α) (h : ∀ x y, st x = st y → g x y = true) : ∀ a b : List α, a.map st = b.map st → allEq g a b = true
  | [], [], _ => rfl
  | [], _ :: _, e => by cases e
  | _ :: _, [], e => by cases e
  | x :: r, y :: s, e => by
    rw [List.map_cons, List.map_cons] at e
    injection e with e1 e2
    rw [allEq, h x y e1, allEq_st g st h r s e2]
    rfl
theorem same_st (f g : FileS) (h : stFi f = stFi g) : sameFile f.1 f.2 g.1 g.2 = true := by
  unfold stFi at h
  simp only [Prod.mk.injEq] at h
  have hF : ∀ x y, stF x = stF y → sameF x y = true := by
    intro x y e
    unfold stF at e
    simp only [S36.mk.injEq] at e
    obtain ⟨e0, e1, e2, e3, e4, e5, _⟩ := e
    unfold sameF
    rw [e0, e1, e2, e3, e4, e5]
    simp
  have hV : ∀ x y, stV x = stV y → sameV x y = true := by
    intro x y e
    unfold stV at e
    simp only [S92.mk.injEq] at e
    obtain ⟨e0, e1, _⟩ := e
    unfold sameV
    rw [e0, e1]
    simp
  have hM : ∀ x y, stM x = stM y → sameM x y = true := by
    intro x y e
    unfold stM at e
    simp only [S34.mk.injEq] at e
    obtain ⟨e0, e1, e2, e3, _⟩ := e
    unfold sameM
    rw [if_pos (by rw [e0]), allEq_st sameF stF hF _ _ e1, e2, e3, allEq_self strEq (fun x => by unfold strEq; simp), allEq_self intEq (fun x => by unfold intEq; simp)]
    rfl
  have hE : ∀ x y, stE x = stE y → sameE x y = true := by
    intro x y e
    unfold stE at e
    simp only [S68.mk.injEq] at e
    obtain ⟨e0, e1, _⟩ := e
    unfold sameE
    rw [if_pos (by rw [e0]), allEq_st sameV stV hV _ _ e1]
  unfold sameFile
  rw [allEq_st sameM stM hM _ _ h.1, allEq_st sameE stE hE _ _ h.2]
  rfl
theorem print_same (f g : FileS) (h : stFi f = stFi g) : printL f.1 f.2 = printL g.1 g.2 := by
  unfold stFi at h
  simp only [Prod.mk.injEq] at h
  unfold printL
  rw [← flat_st msgL stM msg_st f.1, ← flat_st enumL stE enum_st f.2, h.1, h.2, flat_st msgL stM msg_st, flat_st enumL stE enum_st]
def onesIn (l0 : List MsgS) : Prop := ∀ m ∈ l0, ∀ o : Int, 1 ≤ o → o ≤ m.f2.length → ∃ g ∈ m.f1, g.f3 = o
theorem back_all (s : ByteArray) (hs : s.size ≤ 1500) (h0 : (parseF s).2.2 = 0) (ho : onesIn (parseF s).1.1) :
    PrintOk (parseF s).1.1 (parseF s).1.2 ∧ ∀ t : ByteArray, bl t = printL (parseF s).1.1 (parseF s).1.2 → t.size ≤ 5000 → (parseF t).2.2 = 0 ∧ sameFile (parseF s).1.1 (parseF s).1.2 (parseF t).1.1 (parseF t).1.2 = true ∧ PrintOk (parseF t).1.1 (parseF t).1.2 ∧ printL (parseF t).1.1 (parseF t).1.2 = printL (parseF s).1.1 (parseF s).1.2 := by
  obtain ⟨l, h1, h2, h3⟩ := parse_items s hs h0
  have hfull : ∀ x ∈ l, TpOk x ∧ fullT x := by
    intro x hx
    refine ⟨h2 x hx, ?_⟩
    cases x with
    | en nm vs => trivial
    | ms nm its =>
      refine full_of its 0 (fun o q1 q2 => ?_)
      have hm : ∀ (l : List Tp), Tp.ms nm its ∈ l → (⟨nm, fsOf 0 its, onsOf its, resOf its, 0⟩ : MsgS) ∈ msOf l := by
        intro l
        induction l with
        | nil => intro h; exact absurd h List.not_mem_nil
        | cons y r ih =>
          intro h
          rcases List.mem_cons.1 h with h2 | h2
          · subst h2; simp [msOf]
          · cases y with
            | ms a b => simp only [msOf, List.mem_cons]; exact .inr (ih h2)
            | en a b => exact ih h2
      have hm2 := hm l hx
      have e1 := h1
      rw [fold_tps, List.nil_append, List.nil_append] at e1
      unfold stFi at e1
      simp only [Prod.mk.injEq] at e1
      rw [← e1.1] at hm2
      obtain ⟨m, hm3, hm4⟩ := List.mem_map.1 hm2
      unfold stM at hm4
      simp only [S34.mk.injEq] at hm4
      obtain ⟨_, a1, a2, a3, _⟩ := hm4
      obtain ⟨g, hg, hg2⟩ := ho m hm3 o (by omega) (by rw [a2]; omega)
      exact ⟨stF g, by rw [← a1]; exact List.mem_map_of_mem hg, hg2⟩
  have hok := print_ok _ l hfull h3 h1
  refine ⟨hok, fun t ht hsz => ?_⟩
  have hp := print_text _ l hfull h1
  obtain ⟨g1, g2⟩ := parse_back (canT l) (canT_ok l h2) (Nat.le_trans (canT_len l) h3) t (by rw [ht, hp]) hsz
  rw [canT_fold, ← h1] at g2
  refine ⟨g1, same_st _ _ g2.symm, ?_, print_same _ _ g2⟩
  exact print_ok _ l hfull h3 (g2.trans h1)
theorem ms_many : ∀ l : List Tp, (msOf l).length ≤ (tpsT l).length
  | [] => Nat.le_refl _
  | .ms nm its :: r => by have := ms_many r; simp only [msOf, tpsT, tpT, List.length_append, List.length_cons]; omega
  | .en nm vs :: r => by have := ms_many r; simp only [msOf, tpsT, List.length_append]; omega
theorem parse_small (s : ByteArray) (hs : s.size ≤ 1500) (h0 : (parseF s).2.2 = 0) : (parseF s).1.1.length ≤ 1000 ∧ ∀ m ∈ (parseF s).1.1, m.f1.length ≤ 1000 ∧ m.f2.length ≤ 1000 := by
  obtain ⟨l, h1, h2, h3⟩ := parse_items s hs h0
  rw [fold_tps, List.nil_append, List.nil_append] at h1
  unfold stFi at h1
  simp only [Prod.mk.injEq] at h1
  have l1 := congrArg List.length h1.1
  rw [List.length_map] at l1
  have := ms_many l
  refine ⟨by omega, fun m hm => ?_⟩
  have hm2 : stM m ∈ msOf l := by rw [← h1.1]; exact List.mem_map_of_mem hm
  obtain ⟨nm, its, g1, g2, g3⟩ := ms_mem l _ hm2
  have hq := parts_most its 0
  unfold stM at g2
  simp only [S34.mk.injEq] at g2
  obtain ⟨_, e1, e2, e3, _⟩ := g2
  have l1 := congrArg List.length e1
  rw [List.length_map] at l1
  have l2 := congrArg List.length e2
  omega
theorem parse_err (s : ByteArray) (h : (parseF s).2.2 ≠ 0) : (parseF s).1 = ([], []) := by
  unfold parseF at h ⊢
  by_cases h1 : (allF s).2.2 ≠ 0
  · rw [if_pos h1]
  · rw [if_neg h1] at h ⊢
    by_cases h2 : (pAll s.size (allF s).1).2.b = true
    · rw [if_pos h2]
    · rw [if_neg h2] at h
      exact absurd rfl h
end Go.Proofs.YtddpjjhekhompaaGreatDoor.P
