/- Part 5 of what the law ProtoBlanks leans on: contracts of the functions that it reaches, and plain lemmas; printed walks and words (by the kit's print, through wip/mp.py) and the session's own texts, one behind the other, what is not used left out (wip/prune.py). -/
import Derived.Lib.ItoaMem
import Derived.Deep.DeepWitnessRowRef
import Derived.Stop.LaidErr
import Derived.Lib.LaidTab
import Derived.LaidLaws
import Derived.MakeChecks
import Derived.Test.YtddpjjhekhompaaGreatDoorRows
import Derived.Test.YtddpjjhekhompaaGreatDoorMProtoBlanks1
import Derived.Test.YtddpjjhekhompaaGreatDoorMProtoBlanks2
import Derived.Test.YtddpjjhekhompaaGreatDoorMProtoBlanks3
import Derived.Test.YtddpjjhekhompaaGreatDoorMProtoBlanks4
namespace Go.Proofs.YtddpjjhekhompaaGreatDoor.P
open Go.RowKit Go.Proofs.YtddpjjhekhompaaGreatDoorW.PrintWords Go.Proofs.YtddpjjhekhompaaGreatDoorW.PrintLast Go.Proofs.YtddpjjhekhompaaGreatDoorW.PrintMore
set_option linter.unusedVariables false
set_option linter.unusedSimpArgs false
theorem eqA36 (d : Nat) (w : World) (x0 y0 : ByteArray) (x1 y1 : ByteArray) (x2 y2 : Bool) (x3 y3 : Int) (x4 y4 : ByteArray) (x5 y5 : Int) (x6 y6 : Int) :
    (Op.equalIn (d + 2) 36 (.agg #[.string x0, .string x1, .bool x2, .int .i64 x3, .string x4, .int .i64 x5, .int .i64 x6]) (.agg #[.string y0, .string y1, .bool y2, .int .i64 y3, .string y4, .int .i64 y5, .int .i64 y6])).run Tryz.prog w = .ok (x0.toList == y0.toList && (x1.toList == y1.toList && (x2 == y2 && (x3 == y3 && (x4.toList == y4.toList && (x5 == y5 && (x6 == y6))))))) w := by
  refine eqA_of Tryz.underlying36 (by kernel_rfl) ?_
  refine eqf_cons (by rfl) (by go_simp; rfl) (by go_simp; rfl) (by go_simp) ?_
  refine eqf_cons (by rfl) (by go_simp; rfl) (by go_simp; rfl) (by go_simp) ?_
  refine eqf_cons (by rfl) (by go_simp; rfl) (by go_simp; rfl) (by go_simp) ?_
  refine eqf_cons (by rfl) (by go_simp; rfl) (by go_simp; rfl) (by go_simp) ?_
  refine eqf_cons (by rfl) (by go_simp; rfl) (by go_simp; rfl) (by go_simp) ?_
  refine eqf_cons (by rfl) (by go_simp; rfl) (by go_simp; rfl) (by go_simp) ?_
  exact eqf_last (by rfl) (by go_simp; rfl) (by go_simp; rfl) (by go_simp)
end Go.Proofs.YtddpjjhekhompaaGreatDoor.P
namespace Go.Proofs.YtddpjjhekhompaaGreatDoor.P
open Go.RowKit Go.Proofs.YtddpjjhekhompaaGreatDoorW.PrintWords Go.Proofs.YtddpjjhekhompaaGreatDoorW.PrintLast Go.Proofs.YtddpjjhekhompaaGreatDoorW.PrintMore
set_option linter.unusedVariables false
set_option linter.unusedSimpArgs false
attribute [local go_sem high] eqA36
def proto_Same_1.f (a0_0 : ByteArray) (a0_1 : ByteArray) (a0_2 : Bool) (a0_3 : Int) (a0_4 : ByteArray) (a0_5 : Int) (a0_6 : Int) (a1_0 : ByteArray) (a1_1 : ByteArray) (a1_2 : Bool) (a1_3 : Int) (a1_4 : ByteArray) (a1_5 : Int) (a1_6 : Int) : Option (Bool) := some (a0_0.toList == a1_0.toList && (a0_1.toList == a1_1.toList && (a0_2 == a1_2 && (a0_3 == a1_3 && (a0_4.toList == a1_4.toList && (a0_5 == a1_5))))))
set_option maxHeartbeats 8000000 in
set_option maxRecDepth 100000 in
theorem proto_Same_1.calls (a0_0 : ByteArray) (a0_1 : ByteArray) (a0_2 : Bool) (a0_3 : Int) (a0_4 : ByteArray) (a0_5 : Int) (a0_6 : Int) (a1_0 : ByteArray) (a1_1 : ByteArray) (a1_2 : Bool) (a1_3 : Int) (a1_4 : ByteArray) (a1_5 : Int) (a1_6 : Int) (r : Bool) (w : World) (h : proto_Same_1.f a0_0 a0_1 a0_2 a0_3 a0_4 a0_5 a0_6 a1_0 a1_1 a1_2 a1_3 a1_4 a1_5 a1_6 = some r) :
    Calls Tryz.prog 45 #[.agg #[.string a0_0, .string a0_1, .bool a0_2, .int .i64 a0_3, .string a0_4, .int .i64 a0_5, .int .i64 a0_6], .agg #[.string a1_0, .string a1_1, .bool a1_2, .int .i64 a1_3, .string a1_4, .int .i64 a1_5, .int .i64 a1_6]] w fun e w' => e = .returned (.bool r) ∧ Below w.heap.size w w' := by
  have hu36 := Tryz.underlying36
  have HB := Aside0.mk (Below.refl w.heap.size w)
  have H : (some (a0_0.toList == a1_0.toList && (a0_1.toList == a1_1.toList && (a0_2 == a1_2 && (a0_3 == a1_3 && (a0_4.toList == a1_4.toList && (a0_5 == a1_5))))))) = some r := h
  clear h
  obtain rfl := Option.some.inj H
  go_enter Tryz.func45, Tryz.ntmps45
  go_wp2_with (first | ((with_reducible refine gate_dst (N := 2) rfl ?_); refine box_event ?hg (N := 2) ?hd (cs := #[.string a0_0, .string a0_1, .bool a0_2, .int .i64 a0_3, .string a0_4, .int .i64 a0_5, .int .i64 a0_6]) (t := 36) ?hr ?_; (case hd => rfl); (case hg => rfl); (case hr => first | (go_simp; done) | (go_simp; rfl)); intro gb153 hg w3 hbox hb; have n0_ := Aside0.mk (below_step (by repeat (first | (with_reducible first | exact HB.out | apply below_alloc | apply pw_below_drewN | apply below_drew1) | exact HB.out)) hb); have n1_ := Aside0.mk (hbox); have n2_ := Aside0.mk ((by rw [hg]; exact (below_size (by repeat (first | (with_reducible first | exact HB.out | apply below_alloc | apply pw_below_drewN | apply below_drew1) | exact HB.out))) : w.heap.size ≤ gb153)); have n3_ := Aside0.mk ((by rw [hg]; exact (below_size (by repeat (first | (with_reducible first | exact HB.out | apply below_alloc | apply pw_below_drewN | apply below_drew1) | exact HB.out))) : w.heap.size ≤ gb153)); clear HB; have HB := n0_; have BK153 := n1_; have GW153 := n2_; have GE153 := n3_; clear n0_ n1_ n2_ n3_; clear hb hbox hg) | ((with_reducible refine gate_dst (N := 3) rfl ?_); refine box_event ?hg (N := 3) ?hd (cs := #[.string a1_0, .string a1_1, .bool a1_2, .int .i64 a1_3, .string a1_4, .int .i64 a1_5, .int .i64 a1_6]) (t := 36) ?hr ?_; (case hd => rfl); (case hg => rfl); (case hr => first | (go_simp; done) | (go_simp; rfl)); intro gb154 hg w4 hbox hb; have n0_ := Aside0.mk (blk_below (g := gb153) (o := .cells #[.string a0_0, .string a0_1, .bool a0_2, .int .i64 a0_3, .string a0_4, .int .i64 a0_5, .int .i64 a0_6] 36 (0, 0)) (by (with_reducible repeat (first | refine blk_drewN ?_ _ | refine blk_drew ?_ | refine blk_alloc ?_ _)); exact BK153.out) hb); have n1_ := Aside0.mk (below_step (by repeat (first | (with_reducible first | exact HB.out | apply below_alloc | apply pw_below_drewN | apply below_drew1 | refine below_set ?_ GE153.out) | exact HB.out)) hb); have n2_ := Aside0.mk (hbox); have n3_ := Aside0.mk ((by rw [hg]; exact (below_size (by repeat (first | (with_reducible first | exact HB.out | apply below_alloc | apply pw_below_drewN | apply below_drew1 | refine below_set ?_ GE153.out) | exact HB.out))) : w.heap.size ≤ gb154)); have n4_ := Aside0.mk ((by rw [hg]; exact (below_size (by repeat (first | (with_reducible first | exact HB.out | apply below_alloc | apply pw_below_drewN | apply below_drew1 | refine below_set ?_ GE153.out) | exact HB.out))) : w.heap.size ≤ gb154)); have n5_ := Aside0.mk ((by rw [hg]; exact Nat.ne_of_lt (blk_lt (g := gb153) (o := .cells #[.string a0_0, .string a0_1, .bool a0_2, .int .i64 a0_3, .string a0_4, .int .i64 a0_5, .int .i64 a0_6] 36 (0, 0)) (by (with_reducible repeat (first | refine blk_drewN ?_ _ | refine blk_drew ?_ | refine blk_alloc ?_ _)); exact BK153.out)) : gb153 ≠ gb154)); have n6_ := Aside0.mk ((by rw [hg]; exact Nat.ne_of_gt (blk_lt (g := gb153) (o := .cells #[.string a0_0, .string a0_1, .bool a0_2, .int .i64 a0_3, .string a0_4, .int .i64 a0_5, .int .i64 a0_6] 36 (0, 0)) (by (with_reducible repeat (first | refine blk_drewN ?_ _ | refine blk_drew ?_ | refine blk_alloc ?_ _)); exact BK153.out)) : gb154 ≠ gb153)); clear BK153; clear HB; have BK153 := n0_; have HB := n1_; have BK154 := n2_; have GW154 := n3_; have GE154 := n4_; have NB153_154 := n5_; have NB154_153 := n6_; clear n0_ n1_ n2_ n3_ n4_ n5_ n6_; clear hb hbox hg; have hnb5 := NB154_153.out; have hnc5 := NB153_154.out; have hcz6_0 : w4.cell? ⟨gb154, 0, none⟩ = some (.string a1_0) := (blk_cell BK154.out 0).trans rfl; have hcz6_1 : w4.cell? ⟨gb154, 1, none⟩ = some (.string a1_1) := (blk_cell BK154.out 1).trans rfl; have hcz6_2 : w4.cell? ⟨gb154, 2, none⟩ = some (.bool a1_2) := (blk_cell BK154.out 2).trans rfl; have hcz6_3 : w4.cell? ⟨gb154, 3, none⟩ = some (.int .i64 a1_3) := (blk_cell BK154.out 3).trans rfl; have hcz6_4 : w4.cell? ⟨gb154, 4, none⟩ = some (.string a1_4) := (blk_cell BK154.out 4).trans rfl; have hcz6_5 : w4.cell? ⟨gb154, 5, none⟩ = some (.int .i64 a1_5) := (blk_cell BK154.out 5).trans rfl; have hcz6_6 : w4.cell? ⟨gb154, 6, none⟩ = some (.int .i64 a1_6) := (blk_cell BK154.out 6).trans rfl; have hfz6_0 := blk_frozen BK154.out 0; have hfz6_1 := blk_frozen BK154.out 1; have hfz6_2 := blk_frozen BK154.out 2; have hfz6_3 := blk_frozen BK154.out 3; have hfz6_4 := blk_frozen BK154.out 4; have hfz6_5 := blk_frozen BK154.out 5; have hfz6_6 := blk_frozen BK154.out 6; have hcz7_0 : w4.cell? ⟨gb153, 0, none⟩ = some (.string a0_0) := (blk_cell BK153.out 0).trans rfl; have hcz7_1 : w4.cell? ⟨gb153, 1, none⟩ = some (.string a0_1) := (blk_cell BK153.out 1).trans rfl; have hcz7_2 : w4.cell? ⟨gb153, 2, none⟩ = some (.bool a0_2) := (blk_cell BK153.out 2).trans rfl; have hcz7_3 : w4.cell? ⟨gb153, 3, none⟩ = some (.int .i64 a0_3) := (blk_cell BK153.out 3).trans rfl; have hcz7_4 : w4.cell? ⟨gb153, 4, none⟩ = some (.string a0_4) := (blk_cell BK153.out 4).trans rfl; have hcz7_5 : w4.cell? ⟨gb153, 5, none⟩ = some (.int .i64 a0_5) := (blk_cell BK153.out 5).trans rfl; have hcz7_6 : w4.cell? ⟨gb153, 6, none⟩ = some (.int .i64 a0_6) := (blk_cell BK153.out 6).trans rfl; have hfz7_0 := blk_frozen BK153.out 0; have hfz7_1 := blk_frozen BK153.out 1; have hfz7_2 := blk_frozen BK153.out 2; have hfz7_3 := blk_frozen BK153.out 3; have hfz7_4 := blk_frozen BK153.out 4; have hfz7_5 := blk_frozen BK153.out 5; have hfz7_6 := blk_frozen BK153.out 6))
  go_ret
  exact ⟨by first | rfl | (simp [] <;> rfl) | (simp [*] <;> rfl), by repeat (first | (with_reducible first | exact HB.out | apply below_alloc | apply pw_below_drewN | apply below_drew1 | refine below_set ?_ GE153.out | refine below_set ?_ GE154.out) | exact HB.out)⟩
end Go.Proofs.YtddpjjhekhompaaGreatDoor.P
namespace Go.Proofs.YtddpjjhekhompaaGreatDoor.P
open Go.RowKit Go.Proofs.YtddpjjhekhompaaGreatDoorW.PrintWords Go.Proofs.YtddpjjhekhompaaGreatDoorW.PrintLast Go.Proofs.YtddpjjhekhompaaGreatDoorW.PrintMore
set_option linter.unusedVariables false
set_option linter.unusedSimpArgs false
def proto_Same_3.f (a0_0 : ByteArray) (a0_1 : Int) (a0_2 : Int) (a1_0 : ByteArray) (a1_1 : Int) (a1_2 : Int) : Option (Bool) := if a0_0.toList = a1_0.toList then (some (a0_1 == a1_1)) else (some false)
set_option maxHeartbeats 8000000 in
set_option maxRecDepth 100000 in
theorem proto_Same_3.calls (a0_0 : ByteArray) (a0_1 : Int) (a0_2 : Int) (a1_0 : ByteArray) (a1_1 : Int) (a1_2 : Int) (r : Bool) (w : World) (h : proto_Same_3.f a0_0 a0_1 a0_2 a1_0 a1_1 a1_2 = some r) :
    Calls Tryz.prog 50 #[.agg #[.string a0_0, .int .i64 a0_1, .int .i64 a0_2], .agg #[.string a1_0, .int .i64 a1_1, .int .i64 a1_2]] w fun e w' => e = .returned (.bool r) ∧ Below w.heap.size w w' := by
  have hu92 := Tryz.underlying92
  have HB := Aside0.mk (Below.refl w.heap.size w)
  have H : (if a0_0.toList = a1_0.toList then (some (a0_1 == a1_1)) else (some false)) = some r := h
  clear h
  by_cases c3 : a0_0.toList = a1_0.toList
  · rw [if_pos c3] at H
    have c3b0 : (a0_0.toList == a1_0.toList) = true := beq_iff_eq.mpr c3
    have c3b1 : (a0_0.toList != a1_0.toList) = false := bne_eq_false_iff_eq.mpr c3
    clear c3
    obtain rfl := Option.some.inj H
    go_enter Tryz.func50, Tryz.ntmps50
    go_wp2_with (first | ((with_reducible refine gate_dst (N := 2) rfl ?_); refine box_event ?hg (N := 2) ?hd (cs := #[.string a0_0, .int .i64 a0_1, .int .i64 a0_2]) (t := 92) ?hr ?_; (case hd => rfl); (case hg => rfl); (case hr => first | (go_simp; done) | (go_simp; rfl)); intro gb159 hg w4 hbox hb; have n0_ := Aside0.mk (below_step (by repeat (first | (with_reducible first | exact HB.out | apply below_alloc | apply pw_below_drewN | apply below_drew1) | exact HB.out)) hb); have n1_ := Aside0.mk (hbox); have n2_ := Aside0.mk ((by rw [hg]; exact (below_size (by repeat (first | (with_reducible first | exact HB.out | apply below_alloc | apply pw_below_drewN | apply below_drew1) | exact HB.out))) : w.heap.size ≤ gb159)); have n3_ := Aside0.mk ((by rw [hg]; exact (below_size (by repeat (first | (with_reducible first | exact HB.out | apply below_alloc | apply pw_below_drewN | apply below_drew1) | exact HB.out))) : w.heap.size ≤ gb159)); clear HB; have HB := n0_; have BK159 := n1_; have GW159 := n2_; have GE159 := n3_; clear n0_ n1_ n2_ n3_; clear hb hbox hg) | ((with_reducible refine gate_dst (N := 3) rfl ?_); refine box_event ?hg (N := 3) ?hd (cs := #[.string a1_0, .int .i64 a1_1, .int .i64 a1_2]) (t := 92) ?hr ?_; (case hd => rfl); (case hg => rfl); (case hr => first | (go_simp; done) | (go_simp; rfl)); intro gb160 hg w5 hbox hb; have n0_ := Aside0.mk (blk_below (g := gb159) (o := .cells #[.string a0_0, .int .i64 a0_1, .int .i64 a0_2] 92 (0, 0)) (by (with_reducible repeat (first | refine blk_drewN ?_ _ | refine blk_drew ?_ | refine blk_alloc ?_ _)); exact BK159.out) hb); have n1_ := Aside0.mk (below_step (by repeat (first | (with_reducible first | exact HB.out | apply below_alloc | apply pw_below_drewN | apply below_drew1 | refine below_set ?_ GE159.out) | exact HB.out)) hb); have n2_ := Aside0.mk (hbox); have n3_ := Aside0.mk ((by rw [hg]; exact (below_size (by repeat (first | (with_reducible first | exact HB.out | apply below_alloc | apply pw_below_drewN | apply below_drew1 | refine below_set ?_ GE159.out) | exact HB.out))) : w.heap.size ≤ gb160)); have n4_ := Aside0.mk ((by rw [hg]; exact (below_size (by repeat (first | (with_reducible first | exact HB.out | apply below_alloc | apply pw_below_drewN | apply below_drew1 | refine below_set ?_ GE159.out) | exact HB.out))) : w.heap.size ≤ gb160)); have n5_ := Aside0.mk ((by rw [hg]; exact Nat.ne_of_lt (blk_lt (g := gb159) (o := .cells #[.string a0_0, .int .i64 a0_1, .int .i64 a0_2] 92 (0, 0)) (by (with_reducible repeat (first | refine blk_drewN ?_ _ | refine blk_drew ?_ | refine blk_alloc ?_ _)); exact BK159.out)) : gb159 ≠ gb160)); have n6_ := Aside0.mk ((by rw [hg]; exact Nat.ne_of_gt (blk_lt (g := gb159) (o := .cells #[.string a0_0, .int .i64 a0_1, .int .i64 a0_2] 92 (0, 0)) (by (with_reducible repeat (first | refine blk_drewN ?_ _ | refine blk_drew ?_ | refine blk_alloc ?_ _)); exact BK159.out)) : gb160 ≠ gb159)); clear BK159; clear HB; have BK159 := n0_; have HB := n1_; have BK160 := n2_; have GW160 := n3_; have GE160 := n4_; have NB159_160 := n5_; have NB160_159 := n6_; clear n0_ n1_ n2_ n3_ n4_ n5_ n6_; clear hb hbox hg; have hnb6 := NB159_160.out; have hnc6 := NB160_159.out; have hcz7_0 : w5.cell? ⟨gb159, 0, none⟩ = some (.string a0_0) := (blk_cell BK159.out 0).trans rfl; have hcz7_1 : w5.cell? ⟨gb159, 1, none⟩ = some (.int .i64 a0_1) := (blk_cell BK159.out 1).trans rfl; have hcz7_2 : w5.cell? ⟨gb159, 2, none⟩ = some (.int .i64 a0_2) := (blk_cell BK159.out 2).trans rfl; have hfz7_0 := blk_frozen BK159.out 0; have hfz7_1 := blk_frozen BK159.out 1; have hfz7_2 := blk_frozen BK159.out 2; have hcz8_0 : w5.cell? ⟨gb160, 0, none⟩ = some (.string a1_0) := (blk_cell BK160.out 0).trans rfl; have hcz8_1 : w5.cell? ⟨gb160, 1, none⟩ = some (.int .i64 a1_1) := (blk_cell BK160.out 1).trans rfl; have hcz8_2 : w5.cell? ⟨gb160, 2, none⟩ = some (.int .i64 a1_2) := (blk_cell BK160.out 2).trans rfl; have hfz8_0 := blk_frozen BK160.out 0; have hfz8_1 := blk_frozen BK160.out 1; have hfz8_2 := blk_frozen BK160.out 2))
    go_ret
    exact ⟨by first | rfl | (simp [] <;> rfl) | (simp [*] <;> rfl), by repeat (first | (with_reducible first | exact HB.out | apply below_alloc | apply pw_below_drewN | apply below_drew1 | refine below_set ?_ GE159.out | refine below_set ?_ GE160.out) | exact HB.out)⟩
  · rw [if_neg c3] at H
    have c3b0 : (a0_0.toList == a1_0.toList) = false := beq_eq_false_iff_ne.mpr c3
    have c3b1 : (a0_0.toList != a1_0.toList) = true := bne_iff_ne.mpr c3
    obtain rfl := Option.some.inj H
    go_enter Tryz.func50, Tryz.ntmps50
    go_wp2_with (first | ((with_reducible refine gate_dst (N := 2) rfl ?_); refine box_event ?hg (N := 2) ?hd (cs := #[.string a0_0, .int .i64 a0_1, .int .i64 a0_2]) (t := 92) ?hr ?_; (case hd => rfl); (case hg => rfl); (case hr => first | (go_simp; done) | (go_simp; rfl)); intro gb159 hg w9 hbox hb; have n0_ := Aside0.mk (below_step (by repeat (first | (with_reducible first | exact HB.out | apply below_alloc | apply pw_below_drewN | apply below_drew1) | exact HB.out)) hb); have n1_ := Aside0.mk (hbox); have n2_ := Aside0.mk ((by rw [hg]; exact (below_size (by repeat (first | (with_reducible first | exact HB.out | apply below_alloc | apply pw_below_drewN | apply below_drew1) | exact HB.out))) : w.heap.size ≤ gb159)); have n3_ := Aside0.mk ((by rw [hg]; exact (below_size (by repeat (first | (with_reducible first | exact HB.out | apply below_alloc | apply pw_below_drewN | apply below_drew1) | exact HB.out))) : w.heap.size ≤ gb159)); clear HB; have HB := n0_; have BK159 := n1_; have GW159 := n2_; have GE159 := n3_; clear n0_ n1_ n2_ n3_; clear hb hbox hg) | ((with_reducible refine gate_dst (N := 3) rfl ?_); refine box_event ?hg (N := 3) ?hd (cs := #[.string a1_0, .int .i64 a1_1, .int .i64 a1_2]) (t := 92) ?hr ?_; (case hd => rfl); (case hg => rfl); (case hr => first | (go_simp; done) | (go_simp; rfl)); intro gb160 hg w10 hbox hb; have n0_ := Aside0.mk (blk_below (g := gb159) (o := .cells #[.string a0_0, .int .i64 a0_1, .int .i64 a0_2] 92 (0, 0)) (by (with_reducible repeat (first | refine blk_drewN ?_ _ | refine blk_drew ?_ | refine blk_alloc ?_ _)); exact BK159.out) hb); have n1_ := Aside0.mk (below_step (by repeat (first | (with_reducible first | exact HB.out | apply below_alloc | apply pw_below_drewN | apply below_drew1 | refine below_set ?_ GE159.out) | exact HB.out)) hb); have n2_ := Aside0.mk (hbox); have n3_ := Aside0.mk ((by rw [hg]; exact (below_size (by repeat (first | (with_reducible first | exact HB.out | apply below_alloc | apply pw_below_drewN | apply below_drew1 | refine below_set ?_ GE159.out) | exact HB.out))) : w.heap.size ≤ gb160)); have n4_ := Aside0.mk ((by rw [hg]; exact (below_size (by repeat (first | (with_reducible first | exact HB.out | apply below_alloc | apply pw_below_drewN | apply below_drew1 | refine below_set ?_ GE159.out) | exact HB.out))) : w.heap.size ≤ gb160)); have n5_ := Aside0.mk ((by rw [hg]; exact Nat.ne_of_lt (blk_lt (g := gb159) (o := .cells #[.string a0_0, .int .i64 a0_1, .int .i64 a0_2] 92 (0, 0)) (by (with_reducible repeat (first | refine blk_drewN ?_ _ | refine blk_drew ?_ | refine blk_alloc ?_ _)); exact BK159.out)) : gb159 ≠ gb160)); have n6_ := Aside0.mk ((by rw [hg]; exact Nat.ne_of_gt (blk_lt (g := gb159) (o := .cells #[.string a0_0, .int .i64 a0_1, .int .i64 a0_2] 92 (0, 0)) (by (with_reducible repeat (first | refine blk_drewN ?_ _ | refine blk_drew ?_ | refine blk_alloc ?_ _)); exact BK159.out)) : gb160 ≠ gb159)); clear BK159; clear HB; have BK159 := n0_; have HB := n1_; have BK160 := n2_; have GW160 := n3_; have GE160 := n4_; have NB159_160 := n5_; have NB160_159 := n6_; clear n0_ n1_ n2_ n3_ n4_ n5_ n6_; clear hb hbox hg; have hnb11 := NB159_160.out; have hnc11 := NB160_159.out; have hcz12_0 : w10.cell? ⟨gb159, 0, none⟩ = some (.string a0_0) := (blk_cell BK159.out 0).trans rfl; have hcz12_1 : w10.cell? ⟨gb159, 1, none⟩ = some (.int .i64 a0_1) := (blk_cell BK159.out 1).trans rfl; have hcz12_2 : w10.cell? ⟨gb159, 2, none⟩ = some (.int .i64 a0_2) := (blk_cell BK159.out 2).trans rfl; have hfz12_0 := blk_frozen BK159.out 0; have hfz12_1 := blk_frozen BK159.out 1; have hfz12_2 := blk_frozen BK159.out 2; have hcz13_0 : w10.cell? ⟨gb160, 0, none⟩ = some (.string a1_0) := (blk_cell BK160.out 0).trans rfl; have hcz13_1 : w10.cell? ⟨gb160, 1, none⟩ = some (.int .i64 a1_1) := (blk_cell BK160.out 1).trans rfl; have hcz13_2 : w10.cell? ⟨gb160, 2, none⟩ = some (.int .i64 a1_2) := (blk_cell BK160.out 2).trans rfl; have hfz13_0 := blk_frozen BK160.out 0; have hfz13_1 := blk_frozen BK160.out 1; have hfz13_2 := blk_frozen BK160.out 2))
    go_ret
    exact ⟨by first | rfl | (simp [] <;> rfl) | (simp [*] <;> rfl), by repeat (first | (with_reducible first | exact HB.out | apply below_alloc | apply pw_below_drewN | apply below_drew1 | refine below_set ?_ GE159.out | refine below_set ?_ GE160.out) | exact HB.out)⟩
end Go.Proofs.YtddpjjhekhompaaGreatDoor.P
namespace Go.Proofs.YtddpjjhekhompaaGreatDoor.P
open Go.RowKit Go.Proofs.YtddpjjhekhompaaGreatDoorW.PrintWords Go.Proofs.YtddpjjhekhompaaGreatDoorW.PrintLast Go.Proofs.YtddpjjhekhompaaGreatDoorW.PrintMore
set_option linter.unusedVariables false
set_option linter.unusedSimpArgs false
def SameP (w : World) (b : Bool) (e : Ending) (w' : World) : Prop := e = .returned (.bool b) ∧ Below w.heap.size w w'
def allEq {α β : Type} (g : α → β → Bool) : List α → List β → Bool
  | [], [] => true
  | x :: r, y :: s => g x y && allEq g r s
  | [], _ :: _ => false
  | _ :: _, [] => false
theorem allEq_len {α β : Type} (g : α → β → Bool) (l : List α) : ∀ m : List β, l.length ≠ m.length → allEq g l m = false := by
  induction l with
  | nil => intro m h; cases m with
    | nil => exact absurd rfl h
    | cons => rfl
  | cons x r ih => intro m h; cases m with
    | nil => rfl
    | cons y s => rw [allEq, ih s (by simpa using h), Bool.and_false]
theorem allEq_step {α β : Type} (g : α → β → Bool) (l : List α) (m : List β) (k : Nat) (hk : k < l.length) (hm : k < m.length) : allEq g (l.drop k) (m.drop k) = (g l[k] m[k] && allEq g (l.drop (k + 1)) (m.drop (k + 1))) := by
  rw [List.drop_eq_getElem_cons hk, List.drop_eq_getElem_cons hm, allEq]
def sameF (x y : S36) : Bool := (x.f0.toList == y.f0.toList && (x.f1.toList == y.f1.toList && (x.f2 == y.f2 && (x.f3 == y.f3 && (x.f4.toList == y.f4.toList && (x.f5 == y.f5))))))
def sameV (x y : S92) : Bool := if x.f0.toList = y.f0.toList then x.f1 == y.f1 else false
theorem same_f (x y : S36) (b : Bool) (hb : sameF x y = b) (W : World) : Calls Tryz.prog 45 #[.agg #[.string x.f0, .string x.f1, .bool x.f2, .int .i64 x.f3, .string x.f4, .int .i64 x.f5, .int .i64 x.f6], .agg #[.string y.f0, .string y.f1, .bool y.f2, .int .i64 y.f3, .string y.f4, .int .i64 y.f5, .int .i64 y.f6]] W (SameP W b) :=
  proto_Same_1.calls _ _ _ _ _ _ _ _ _ _ _ _ _ _ b W (by unfold proto_Same_1.f; rw [← hb]; rfl)
theorem same_v (x y : S92) (b : Bool) (hb : sameV x y = b) (W : World) : Calls Tryz.prog 50 #[.agg #[.string x.f0, .int .i64 x.f1, .int .i64 x.f2], .agg #[.string y.f0, .int .i64 y.f1, .int .i64 y.f2]] W (SameP W b) :=
  proto_Same_3.calls _ _ _ _ _ _ b W (by unfold proto_Same_3.f; unfold sameV at hb; rw [← hb]; split <;> rfl)
set_option maxRecDepth 100000 in
set_option maxHeartbeats 4000000 in
theorem eqf_F (l m : List (S36)) (A A2 : Option Addr) (c c2 : Nat) (w : World) (hC : k36.C w A l.length l) (hC2 : k36.C w A2 m.length m) (hc : l.length ≤ c) (hc2 : m.length ≤ c2) :
    Calls Tryz.prog 47 #[.slice A l.length c, .slice A2 m.length c2, .func (.func 45) #[] #[]] w (SameP w (allEq sameF l m)) := by
  have HC := Aside0.mk hC
  have HC2 := Aside0.mk hC2
  have hm1 := Kd.C_max hC
  have hm2 := Kd.C_max hC2
  clear hC hC2
  by_cases hlen : l.length = m.length
  · have d1 : ((l.length : Int) != (m.length : Int)) = false := by rw [bne_eq_false_iff_eq]; omega
    have HLEN := Aside0.mk hlen
    clear hlen
    go_enter Tryz.func47, Tryz.ntmps47
    go_wp2
    go_loopg [17] l.length (fun n v W => ∃ i : Nat, v = .int .i64 i ∧ Aside0 (allEq sameF (l.drop i) (m.drop i) = allEq sameF l m) ∧ Aside0 (Below w.heap.size w W) ∧ Aside0 (i + n = l.length))
    case atStart => exact ⟨0, rfl, ⟨rfl⟩, ⟨Below.refl _ _⟩, ⟨by omega⟩⟩
    case round =>
      obtain ⟨i, rfl, HS, HB, HN⟩ := hrel
      by_cases hlt : i < l.length
      · have hlt2 : i < m.length := by have := HLEN.out; omega
        have HT := Aside0.mk ((allEq_step sameF l m i hlt hlt2).symm.trans HS.out)
        clear HS
        have d3 : (0 : Int) ≤ (i : Int) := by omega
        have d4 : (i : Int) < (l.length : Int) := by omega
        have d4' : (i : Int) < (m.length : Int) := by omega
        obtain ⟨pad, phad, pz0, pz1, pz2, pz3, pz4, pz5, pz6⟩ := at_T36 HC.out i d3 d4
        obtain ⟨x, hx⟩ : ∃ x, x = l[i]'hlt := ⟨_, rfl⟩
        have phrd : rd_T36 l i = x := by unfold rd_T36; rw [hx, List.getD_eq_getElem?_getD]; simp [hlt, hlt2]
        rw [phrd] at pz0 pz1 pz2 pz3 pz4 pz5 pz6
        rw [Int.toNat_natCast] at pz0 pz1 pz2 pz3 pz4 pz5 pz6
        replace pz0 := (HB.out.cell (World.block_lt_of_cell? w _ pz0)).trans pz0
        replace pz1 := (HB.out.cell (World.block_lt_of_cell? w _ pz1)).trans pz1
        replace pz2 := (HB.out.cell (World.block_lt_of_cell? w _ pz2)).trans pz2
        replace pz3 := (HB.out.cell (World.block_lt_of_cell? w _ pz3)).trans pz3
        replace pz4 := (HB.out.cell (World.block_lt_of_cell? w _ pz4)).trans pz4
        replace pz5 := (HB.out.cell (World.block_lt_of_cell? w _ pz5)).trans pz5
        replace pz6 := (HB.out.cell (World.block_lt_of_cell? w _ pz6)).trans pz6
        clear phrd
        subst phad
        obtain ⟨qad, qhad, qz0, qz1, qz2, qz3, qz4, qz5, qz6⟩ := at_T36 HC2.out i d3 d4'
        obtain ⟨y, hy⟩ : ∃ y, y = m[i]'hlt2 := ⟨_, rfl⟩
        have qhrd : rd_T36 m i = y := by unfold rd_T36; rw [hy, List.getD_eq_getElem?_getD]; simp [hlt, hlt2]
        rw [qhrd] at qz0 qz1 qz2 qz3 qz4 qz5 qz6
        rw [Int.toNat_natCast] at qz0 qz1 qz2 qz3 qz4 qz5 qz6
        replace qz0 := (HB.out.cell (World.block_lt_of_cell? w _ qz0)).trans qz0
        replace qz1 := (HB.out.cell (World.block_lt_of_cell? w _ qz1)).trans qz1
        replace qz2 := (HB.out.cell (World.block_lt_of_cell? w _ qz2)).trans qz2
        replace qz3 := (HB.out.cell (World.block_lt_of_cell? w _ qz3)).trans qz3
        replace qz4 := (HB.out.cell (World.block_lt_of_cell? w _ qz4)).trans qz4
        replace qz5 := (HB.out.cell (World.block_lt_of_cell? w _ qz5)).trans qz5
        replace qz6 := (HB.out.cell (World.block_lt_of_cell? w _ qz6)).trans qz6
        clear qhrd
        subst qhad
        have qz0' := pw_cell_below (below_alloc (Below.refl _ wr) (.cells #[.string x.f0, .string x.f1, .bool x.f2, .int .i64 x.f3, .string x.f4, .int .i64 x.f5, .int .i64 x.f6] 36 (0, 0))) qz0
        have qz1' := pw_cell_below (below_alloc (Below.refl _ wr) (.cells #[.string x.f0, .string x.f1, .bool x.f2, .int .i64 x.f3, .string x.f4, .int .i64 x.f5, .int .i64 x.f6] 36 (0, 0))) qz1
        have qz2' := pw_cell_below (below_alloc (Below.refl _ wr) (.cells #[.string x.f0, .string x.f1, .bool x.f2, .int .i64 x.f3, .string x.f4, .int .i64 x.f5, .int .i64 x.f6] 36 (0, 0))) qz2
        have qz3' := pw_cell_below (below_alloc (Below.refl _ wr) (.cells #[.string x.f0, .string x.f1, .bool x.f2, .int .i64 x.f3, .string x.f4, .int .i64 x.f5, .int .i64 x.f6] 36 (0, 0))) qz3
        have qz4' := pw_cell_below (below_alloc (Below.refl _ wr) (.cells #[.string x.f0, .string x.f1, .bool x.f2, .int .i64 x.f3, .string x.f4, .int .i64 x.f5, .int .i64 x.f6] 36 (0, 0))) qz4
        have qz5' := pw_cell_below (below_alloc (Below.refl _ wr) (.cells #[.string x.f0, .string x.f1, .bool x.f2, .int .i64 x.f3, .string x.f4, .int .i64 x.f5, .int .i64 x.f6] 36 (0, 0))) qz5
        have qz6' := pw_cell_below (below_alloc (Below.refl _ wr) (.cells #[.string x.f0, .string x.f1, .bool x.f2, .int .i64 x.f3, .string x.f4, .int .i64 x.f5, .int .i64 x.f6] 36 (0, 0))) qz6
        clear qz0 qz1 qz2 qz3 qz4 qz5 qz6
        rw [← hx, ← hy] at HT
        clear hx hy
        obtain ⟨b, hb⟩ : ∃ b, sameF x y = b := ⟨_, rfl⟩
        rw [hb] at HT
        have HBX := Aside0.mk hb
        clear hb
        cases gk with
        | zero => have := HN.out; omega
        | succ k1 =>
          cases b
          · have hF : Aside0 (false = allEq sameF l m) := ⟨by rw [← HT.out, Bool.false_and]⟩
            clear HT
            go_wp2_with (go_at_call 45; refine (same_f x y _ HBX.out _).mono ?_; rintro e W1 ⟨rfl, hB1⟩)
            go_ret
            exact ⟨by rw [← hF.out]; rfl, below_step (below_alloc (below_alloc HB.out _) _) hB1⟩
          · have hT : Aside0 (allEq sameF (l.drop (i + 1)) (m.drop (i + 1)) = allEq sameF l m) := ⟨by rw [← HT.out, Bool.true_and]⟩
            clear HT
            go_wp2_with (go_at_call 45; refine (same_f x y _ HBX.out _).mono ?_; rintro e W1 ⟨rfl, hB1⟩)
            go_roundg k1
            case measure => omega
            case rel => exact ⟨i + 1, by go_num, hT, ⟨below_step (below_alloc (below_alloc HB.out _) _) hB1⟩, ⟨by have := HN.out; omega⟩⟩
      · have hF : Aside0 (true = allEq sameF l m) := ⟨by rw [← HS.out, List.drop_of_length_le (by omega), List.drop_of_length_le (by have := HLEN.out; omega)]; rfl⟩
        clear HS
        go_wp2
        go_ret
        exact ⟨by rw [← hF.out]; rfl, HB.out⟩
  · have d1 : ((l.length : Int) != (m.length : Int)) = true := by rw [bne_iff_ne]; omega
    have HF := Aside0.mk (allEq_len sameF l m hlen)
    clear hlen
    go_enter Tryz.func47, Tryz.ntmps47
    rw [HF.out]
    go_wp2
    go_ret
    exact ⟨rfl, Below.refl _ _⟩
set_option maxRecDepth 100000 in
set_option maxHeartbeats 4000000 in
theorem eqf_V (l m : List (S92)) (A A2 : Option Addr) (c c2 : Nat) (w : World) (hC : k92.C w A l.length l) (hC2 : k92.C w A2 m.length m) (hc : l.length ≤ c) (hc2 : m.length ≤ c2) :
    Calls Tryz.prog 52 #[.slice A l.length c, .slice A2 m.length c2, .func (.func 50) #[] #[]] w (SameP w (allEq sameV l m)) := by
  have HC := Aside0.mk hC
  have HC2 := Aside0.mk hC2
  have hm1 := Kd.C_max hC
  have hm2 := Kd.C_max hC2
  clear hC hC2
  by_cases hlen : l.length = m.length
  · have d1 : ((l.length : Int) != (m.length : Int)) = false := by rw [bne_eq_false_iff_eq]; omega
    have HLEN := Aside0.mk hlen
    clear hlen
    go_enter Tryz.func52, Tryz.ntmps52
    go_wp2
    go_loopg [17] l.length (fun n v W => ∃ i : Nat, v = .int .i64 i ∧ Aside0 (allEq sameV (l.drop i) (m.drop i) = allEq sameV l m) ∧ Aside0 (Below w.heap.size w W) ∧ Aside0 (i + n = l.length))
    case atStart => exact ⟨0, rfl, ⟨rfl⟩, ⟨Below.refl _ _⟩, ⟨by omega⟩⟩
    case round =>
      obtain ⟨i, rfl, HS, HB, HN⟩ := hrel
      by_cases hlt : i < l.length
      · have hlt2 : i < m.length := by have := HLEN.out; omega
        have HT := Aside0.mk ((allEq_step sameV l m i hlt hlt2).symm.trans HS.out)
        clear HS
        have d3 : (0 : Int) ≤ (i : Int) := by omega
        have d4 : (i : Int) < (l.length : Int) := by omega
        have d4' : (i : Int) < (m.length : Int) := by omega
        obtain ⟨pad, phad, pz0, pz1, pz2⟩ := at_T92 HC.out i d3 d4
        obtain ⟨x, hx⟩ : ∃ x, x = l[i]'hlt := ⟨_, rfl⟩
        have phrd : rd_T92 l i = x := by unfold rd_T92; rw [hx, List.getD_eq_getElem?_getD]; simp [hlt, hlt2]
        rw [phrd] at pz0 pz1 pz2
        rw [Int.toNat_natCast] at pz0 pz1 pz2
        replace pz0 := (HB.out.cell (World.block_lt_of_cell? w _ pz0)).trans pz0
        replace pz1 := (HB.out.cell (World.block_lt_of_cell? w _ pz1)).trans pz1
        replace pz2 := (HB.out.cell (World.block_lt_of_cell? w _ pz2)).trans pz2
        clear phrd
        subst phad
        obtain ⟨qad, qhad, qz0, qz1, qz2⟩ := at_T92 HC2.out i d3 d4'
        obtain ⟨y, hy⟩ : ∃ y, y = m[i]'hlt2 := ⟨_, rfl⟩
        have qhrd : rd_T92 m i = y := by unfold rd_T92; rw [hy, List.getD_eq_getElem?_getD]; simp [hlt, hlt2]
        rw [qhrd] at qz0 qz1 qz2
        rw [Int.toNat_natCast] at qz0 qz1 qz2
        replace qz0 := (HB.out.cell (World.block_lt_of_cell? w _ qz0)).trans qz0
        replace qz1 := (HB.out.cell (World.block_lt_of_cell? w _ qz1)).trans qz1
        replace qz2 := (HB.out.cell (World.block_lt_of_cell? w _ qz2)).trans qz2
        clear qhrd
        subst qhad
        have qz0' := pw_cell_below (below_alloc (Below.refl _ wr) (.cells #[.string x.f0, .int .i64 x.f1, .int .i64 x.f2] 92 (0, 0))) qz0
        have qz1' := pw_cell_below (below_alloc (Below.refl _ wr) (.cells #[.string x.f0, .int .i64 x.f1, .int .i64 x.f2] 92 (0, 0))) qz1
        have qz2' := pw_cell_below (below_alloc (Below.refl _ wr) (.cells #[.string x.f0, .int .i64 x.f1, .int .i64 x.f2] 92 (0, 0))) qz2
        clear qz0 qz1 qz2
        rw [← hx, ← hy] at HT
        clear hx hy
        obtain ⟨b, hb⟩ : ∃ b, sameV x y = b := ⟨_, rfl⟩
        rw [hb] at HT
        have HBX := Aside0.mk hb
        clear hb
        cases gk with
        | zero => have := HN.out; omega
        | succ k1 =>
          cases b
          · have hF : Aside0 (false = allEq sameV l m) := ⟨by rw [← HT.out, Bool.false_and]⟩
            clear HT
            go_wp2_with (go_at_call 50; refine (same_v x y _ HBX.out _).mono ?_; rintro e W1 ⟨rfl, hB1⟩)
            go_ret
            exact ⟨by rw [← hF.out]; rfl, below_step (below_alloc (below_alloc HB.out _) _) hB1⟩
          · have hT : Aside0 (allEq sameV (l.drop (i + 1)) (m.drop (i + 1)) = allEq sameV l m) := ⟨by rw [← HT.out, Bool.true_and]⟩
            clear HT
            go_wp2_with (go_at_call 50; refine (same_v x y _ HBX.out _).mono ?_; rintro e W1 ⟨rfl, hB1⟩)
            go_roundg k1
            case measure => omega
            case rel => exact ⟨i + 1, by go_num, hT, ⟨below_step (below_alloc (below_alloc HB.out _) _) hB1⟩, ⟨by have := HN.out; omega⟩⟩
      · have hF : Aside0 (true = allEq sameV l m) := ⟨by rw [← HS.out, List.drop_of_length_le (by omega), List.drop_of_length_le (by have := HLEN.out; omega)]; rfl⟩
        clear HS
        go_wp2
        go_ret
        exact ⟨by rw [← hF.out]; rfl, HB.out⟩
  · have d1 : ((l.length : Int) != (m.length : Int)) = true := by rw [bne_iff_ne]; omega
    have HF := Aside0.mk (allEq_len sameV l m hlen)
    clear hlen
    go_enter Tryz.func52, Tryz.ntmps52
    rw [HF.out]
    go_wp2
    go_ret
    exact ⟨rfl, Below.refl _ _⟩
end Go.Proofs.YtddpjjhekhompaaGreatDoor.P
namespace Go.Proofs.YtddpjjhekhompaaGreatDoor.P
open Go.RowKit Go.Proofs.YtddpjjhekhompaaGreatDoorW.PrintWords Go.Proofs.YtddpjjhekhompaaGreatDoorW.PrintLast Go.Proofs.YtddpjjhekhompaaGreatDoorW.PrintMore
set_option linter.unusedVariables false
set_option linter.unusedSimpArgs false
def strEq (a b : ByteArray) : Bool := a.toList == b.toList
def intEq (a b : Int) : Bool := a == b
theorem equal_s (l m : List ByteArray) (h : l.length = m.length) (hb : l.length ≤ 9223372036854775807) : ∀ n i : Nat, i + n = l.length → slices_Equal_string_string.l0 (n + 1) l m (l.length : Int) (i : Int) = some (allEq strEq (l.drop i) (m.drop i))
  | 0, i, hi => by
    unfold slices_Equal_string_string.l0
    rw [if_neg (by omega), List.drop_of_length_le (by omega), List.drop_of_length_le (by omega)]
    rfl
  | n + 1, i, hi => by
    have h1 : i < l.length := by omega
    have h2 : i < m.length := by omega
    have r1 : rdOf ByteArray.empty l (i : Int) = l[i] := by unfold rdOf; simp [h1]
    have r2 : rdOf ByteArray.empty m (i : Int) = m[i] := by unfold rdOf; simp [h2]
    have hw : wrap64 ((i : Int) + 1) = ((i + 1 : Nat) : Int) := by unfold wrap64; omega
    unfold slices_Equal_string_string.l0
    rw [if_pos (by omega), if_pos (by omega), if_pos (by omega), if_pos (by omega), r1, r2, hw, equal_s l m h hb n (i + 1) (by omega), allEq_step strEq l m i h1 h2]
    unfold strEq
    by_cases e : l[i].toList = m[i].toList
    · rw [if_pos e, e]; simp
    · rw [if_neg e]
      have : (l[i].toList == m[i].toList) = false := beq_eq_false_iff_ne.2 e
      rw [this, Bool.false_and]
theorem equal_S (l m : List ByteArray) (hb : l.length ≤ 9223372036854775807) : slices_Equal_string_string.f (l.length + 1) l m = some (allEq strEq l m) := by
  unfold slices_Equal_string_string.f
  by_cases h : l.length = m.length
  · rw [if_pos (by omega)]
    exact equal_s l m h hb l.length 0 (by omega)
  · rw [if_neg (by omega), allEq_len strEq l m h]
theorem equal_i (l m : List Int) (h : l.length = m.length) (hb : l.length ≤ 9223372036854775807) : ∀ n i : Nat, i + n = l.length → slices_Equal_int64_int64.l0 (n + 1) l m (l.length : Int) (i : Int) = some (allEq intEq (l.drop i) (m.drop i))
  | 0, i, hi => by
    unfold slices_Equal_int64_int64.l0
    rw [if_neg (by omega), List.drop_of_length_le (by omega), List.drop_of_length_le (by omega)]
    rfl
  | n + 1, i, hi => by
    have h1 : i < l.length := by omega
    have h2 : i < m.length := by omega
    have r1 : rd l (i : Int) = l[i] := by unfold rd; simp [h1]
    have r2 : rd m (i : Int) = m[i] := by unfold rd; simp [h2]
    have hw : wrap64 ((i : Int) + 1) = ((i + 1 : Nat) : Int) := by unfold wrap64; omega
    unfold slices_Equal_int64_int64.l0
    rw [if_pos (by omega), if_pos (by omega), if_pos (by omega), if_pos (by omega), r1, r2, hw, equal_i l m h hb n (i + 1) (by omega), allEq_step intEq l m i h1 h2]
    unfold intEq
    by_cases e : l[i] = m[i]
    · rw [if_pos e, e]; simp
    · rw [if_neg e]
      have : (l[i] == m[i]) = false := beq_eq_false_iff_ne.2 e
      rw [this, Bool.false_and]
theorem equal_I (l m : List Int) (hb : l.length ≤ 9223372036854775807) : slices_Equal_int64_int64.f (l.length + 1) l m = some (allEq intEq l m) := by
  unfold slices_Equal_int64_int64.f
  by_cases h : l.length = m.length
  · rw [if_pos (by omega)]
    exact equal_i l m h hb l.length 0 (by omega)
  · rw [if_neg (by omega), allEq_len intEq l m h]
def sameM (x y : S34) : Bool := if x.f0.toList = y.f0.toList then (allEq sameF x.f1 y.f1 && (allEq strEq x.f2 y.f2 && allEq intEq x.f3 y.f3)) else false
def sameE (x y : S68) : Bool := if x.f0.toList = y.f0.toList then allEq sameV x.f1 y.f1 else false
set_option maxRecDepth 100000 in
set_option maxHeartbeats 4000000 in
theorem same_m (x y : S34) (pA1 pA2 pA3 qA1 qA2 qA3 : Option Addr) (pc1 pc2 pc3 qc1 qc2 qc3 p : Nat) (W : World) (hp : W.cell? ⟨p, 0, none⟩ = some (.func (.func 45) #[] #[]))
    (r1 : k36.C W pA1 x.f1.length x.f1) (r2 : Kd.string.C W pA2 x.f2.length x.f2) (r3 : (Kd.int .i64).C W pA3 x.f3.length x.f3) (s1 : k36.C W qA1 y.f1.length y.f1) (s2 : Kd.string.C W qA2 y.f2.length y.f2) (s3 : (Kd.int .i64).C W qA3 y.f3.length y.f3)
    (g1 : x.f1.length ≤ pc1) (g2 : x.f2.length ≤ pc2) (g3 : x.f3.length ≤ pc3) (h1 : y.f1.length ≤ qc1) (h2 : y.f2.length ≤ qc2) (h3 : y.f3.length ≤ qc3) :
    Calls Tryz.prog 46 #[.agg #[.string x.f0, .slice pA1 x.f1.length pc1, .slice pA2 x.f2.length pc2, .slice pA3 x.f3.length pc3, .int .i64 x.f4], .agg #[.string y.f0, .slice qA1 y.f1.length qc1, .slice qA2 y.f2.length qc2, .slice qA3 y.f3.length qc3, .int .i64 y.f4], .pointer (some ⟨p, 0, none⟩)] W (SameP W (sameM x y)) := by
  have hp2 : ∀ o o2, ((W.alloc o).alloc o2).cell? ⟨p, 0, none⟩ = some (.func (.func 45) #[] #[]) := fun o o2 => pw_cell_below (below_alloc (Below.refl _ _) _) (pw_cell_below (below_alloc (Below.refl _ _) _) hp)
  have R1 := Aside0.mk r1
  have R2 := Aside0.mk r2
  have R3 := Aside0.mk r3
  have S1 := Aside0.mk s1
  have S2 := Aside0.mk s2
  have S3 := Aside0.mk s3
  clear r1 r2 r3 s1 s2 s3 hp
  have hV : Aside0 (sameM x y = if x.f0.toList = y.f0.toList then (allEq sameF x.f1 y.f1 && (allEq strEq x.f2 y.f2 && allEq intEq x.f3 y.f3)) else false) := ⟨rfl⟩
  by_cases e : x.f0.toList = y.f0.toList
  · have b1 : (x.f0.toList == y.f0.toList) = true := beq_iff_eq.2 e
    have HV2 := Aside0.mk (hV.out.trans (if_pos e))
    clear e hV
    have hx0 := blk_alloc (blk_new W (.cells #[.string x.f0, .slice pA1 x.f1.length pc1, .slice pA2 x.f2.length pc2, .slice pA3 x.f3.length pc3, .int .i64 x.f4] 34 (0, 0))) (.cells #[.string y.f0, .slice qA1 y.f1.length qc1, .slice qA2 y.f2.length qc2, .slice qA3 y.f3.length qc3, .int .i64 y.f4] 34 (0, 0))
    have hy0 := blk_new (W.alloc (.cells #[.string x.f0, .slice pA1 x.f1.length pc1, .slice pA2 x.f2.length pc2, .slice pA3 x.f3.length pc3, .int .i64 x.f4] 34 (0, 0))) (.cells #[.string y.f0, .slice qA1 y.f1.length qc1, .slice qA2 y.f2.length qc2, .slice qA3 y.f3.length qc3, .int .i64 y.f4] 34 (0, 0))
    rw [World.size_alloc] at hy0
    have HB0 := Aside0.mk (below_alloc (below_alloc (Below.refl W.heap.size W) (.cells #[.string x.f0, .slice pA1 x.f1.length pc1, .slice pA2 x.f2.length pc2, .slice pA3 x.f3.length pc3, .int .i64 x.f4] 34 (0, 0))) (.cells #[.string y.f0, .slice qA1 y.f1.length qc1, .slice qA2 y.f2.length qc2, .slice qA3 y.f3.length qc3, .int .i64 y.f4] 34 (0, 0)))
    have HX0 := Aside0.mk hx0
    have HY0 := Aside0.mk hy0
    clear hx0 hy0
    go_enter Tryz.func46, Tryz.ntmps46
    go_wp2_with fail
    clear hp2
    generalize (W.alloc (.cells #[.string x.f0, .slice pA1 x.f1.length pc1, .slice pA2 x.f2.length pc2, .slice pA3 x.f3.length pc3, .int .i64 x.f4] 34 (0, 0))).alloc (.cells #[.string y.f0, .slice qA1 y.f1.length qc1, .slice qA2 y.f2.length qc2, .slice qA3 y.f3.length qc3, .int .i64 y.f4] 34 (0, 0)) = V0 at *
    go_at_call 47
    refine (eqf_F x.f1 y.f1 pA1 qA1 pc1 qc1 _ (Kd.C_below R1.out HB0.out) (Kd.C_below S1.out HB0.out) g1 h1).mono ?_
    rintro e1 W1 ⟨rfl, hB1⟩
    have HX1 := Aside0.mk (blk_below HX0.out hB1)
    have HY1 := Aside0.mk (blk_below HY0.out hB1)
    have HB1 := Aside0.mk (HB0.out.trans (hB1.mono HB0.out.size))
    clear HX0 HY0 HB0 hB1
    obtain ⟨b, hb⟩ : ∃ b, allEq sameF x.f1 y.f1 = b := ⟨_, rfl⟩
    rw [hb] at HV2 ⊢
    clear hb
    cases b
    · go_wp2_with fail
      go_ret
      exact ⟨by rw [HV2.out, Bool.false_and]; rfl, HB1.out⟩
    · have x2 : W1.cell? ⟨W.heap.size, 2, none⟩ = some (.slice pA2 x.f2.length pc2) := (blk_cell HX1.out 2).trans rfl
      have y2 : W1.cell? ⟨W.heap.size + 1, 2, none⟩ = some (.slice qA2 y.f2.length qc2) := (blk_cell HY1.out 2).trans rfl
      go_wp2_with fail
      clear x2 y2
      go_at_call 48
      refine (slices_Equal_string_string.calls _ pA2 pc2 x.f2 qA2 qc2 y.f2 _ _ (Kd.C_below R2.out HB1.out) g2 (Kd.C_below S2.out HB1.out) h2 (equal_S _ _ (Kd.C_max R2.out))).mono ?_
      rintro e2 W2 ⟨rfl, hd2⟩
      have HX2 := Aside0.mk (blk_below HX1.out hd2.below)
      have HY2 := Aside0.mk (blk_below HY1.out hd2.below)
      have HB2 := Aside0.mk (HB1.out.trans (drawn_below hd2 _))
      clear HX1 HY1 HB1 hd2
      obtain ⟨b, hb⟩ : ∃ b, allEq strEq x.f2 y.f2 = b := ⟨_, rfl⟩
      rw [hb] at HV2 ⊢
      clear hb
      cases b
      · go_wp2_with fail
        go_ret
        exact ⟨by rw [HV2.out, Bool.true_and, Bool.false_and]; rfl, HB2.out⟩
      · have x3 : W2.cell? ⟨W.heap.size, 3, none⟩ = some (.slice pA3 x.f3.length pc3) := (blk_cell HX2.out 3).trans rfl
        have y3 : W2.cell? ⟨W.heap.size + 1, 3, none⟩ = some (.slice qA3 y.f3.length qc3) := (blk_cell HY2.out 3).trans rfl
        go_wp2_with fail
        clear x3 y3
        go_at_call 49
        refine (slices_Equal_int64_int64.calls _ pA3 pc3 x.f3 qA3 qc3 y.f3 _ _ (Kd.C_below R3.out HB2.out) g3 (Kd.C_below S3.out HB2.out) h3 (equal_I _ _ (Kd.C_max R3.out))).mono ?_
        rintro e3 W3 ⟨rfl, hd3⟩
        have HB3 := Aside0.mk (HB2.out.trans (drawn_below hd3 _))
        clear HX2 HY2 HB2 hd3
        obtain ⟨b, hb⟩ : ∃ b, allEq intEq x.f3 y.f3 = b := ⟨_, rfl⟩
        rw [hb] at HV2 ⊢
        clear hb
        go_wp2_with fail
        go_ret
        exact ⟨by rw [HV2.out, Bool.true_and, Bool.true_and]; rfl, HB3.out⟩
  · have b1 : (x.f0.toList == y.f0.toList) = false := beq_eq_false_iff_ne.2 e
    have HV2 := Aside0.mk (hV.out.trans (if_neg e))
    clear e hV
    go_enter Tryz.func46, Tryz.ntmps46
    go_wp2_with fail
    go_ret
    exact ⟨by rw [HV2.out]; rfl, below_alloc (below_alloc (Below.refl _ _) _) _⟩
set_option maxRecDepth 100000 in
set_option maxHeartbeats 4000000 in
theorem same_e (x y : S68) (pA1 qA1 : Option Addr) (pc1 qc1 p : Nat) (W : World) (hp : W.cell? ⟨p, 0, none⟩ = some (.func (.func 50) #[] #[]))
    (r1 : k92.C W pA1 x.f1.length x.f1) (s1 : k92.C W qA1 y.f1.length y.f1) (g1 : x.f1.length ≤ pc1) (h1 : y.f1.length ≤ qc1) :
    Calls Tryz.prog 51 #[.agg #[.string x.f0, .slice pA1 x.f1.length pc1, .int .i64 x.f2], .agg #[.string y.f0, .slice qA1 y.f1.length qc1, .int .i64 y.f2], .pointer (some ⟨p, 0, none⟩)] W (SameP W (sameE x y)) := by
  have hp2 : ∀ o o2, ((W.alloc o).alloc o2).cell? ⟨p, 0, none⟩ = some (.func (.func 50) #[] #[]) := fun o o2 => pw_cell_below (below_alloc (Below.refl _ _) _) (pw_cell_below (below_alloc (Below.refl _ _) _) hp)
  have R1 := Aside0.mk r1
  have S1 := Aside0.mk s1
  clear r1 s1 hp
  have hV : Aside0 (sameE x y = if x.f0.toList = y.f0.toList then allEq sameV x.f1 y.f1 else false) := ⟨rfl⟩
  by_cases e : x.f0.toList = y.f0.toList
  · have b1 : (x.f0.toList == y.f0.toList) = true := beq_iff_eq.2 e
    have HV2 := Aside0.mk (hV.out.trans (if_pos e))
    clear e hV
    have HB0 := Aside0.mk (below_alloc (below_alloc (Below.refl W.heap.size W) (.cells #[.string x.f0, .slice pA1 x.f1.length pc1, .int .i64 x.f2] 68 (0, 0))) (.cells #[.string y.f0, .slice qA1 y.f1.length qc1, .int .i64 y.f2] 68 (0, 0)))
    go_enter Tryz.func51, Tryz.ntmps51
    go_wp2_with fail
    clear hp2
    generalize (W.alloc (.cells #[.string x.f0, .slice pA1 x.f1.length pc1, .int .i64 x.f2] 68 (0, 0))).alloc (.cells #[.string y.f0, .slice qA1 y.f1.length qc1, .int .i64 y.f2] 68 (0, 0)) = V0 at *
    go_at_call 52
    refine (eqf_V x.f1 y.f1 pA1 qA1 pc1 qc1 _ (Kd.C_below R1.out HB0.out) (Kd.C_below S1.out HB0.out) g1 h1).mono ?_
    rintro e1 W1 ⟨rfl, hB1⟩
    have HB1 := Aside0.mk (HB0.out.trans (hB1.mono HB0.out.size))
    clear HB0 hB1
    obtain ⟨b, hb⟩ : ∃ b, allEq sameV x.f1 y.f1 = b := ⟨_, rfl⟩
    rw [hb] at HV2 ⊢
    clear hb
    go_wp2_with fail
    go_ret
    exact ⟨by rw [HV2.out]; rfl, HB1.out⟩
  · have b1 : (x.f0.toList == y.f0.toList) = false := beq_eq_false_iff_ne.2 e
    have HV2 := Aside0.mk (hV.out.trans (if_neg e))
    clear e hV
    go_enter Tryz.func51, Tryz.ntmps51
    go_wp2_with fail
    go_ret
    exact ⟨by rw [HV2.out]; rfl, below_alloc (below_alloc (Below.refl _ _) _) _⟩
set_option maxRecDepth 100000 in
set_option maxHeartbeats 4000000 in
theorem eqf_M (l m : List (S34)) (A A2 : Option Addr) (c c2 : Nat) (w : World) (hC : k34.C w A l.length l) (hC2 : k34.C w A2 m.length m) (hc : l.length ≤ c) (hc2 : m.length ≤ c2) (p : Nat) (hp : w.cell? ⟨p, 0, none⟩ = some (.func (.func 45) #[] #[])) :
    Calls Tryz.prog 53 #[.slice A l.length c, .slice A2 m.length c2, .func (.func 46) #[] #[.pointer (some ⟨p, 0, none⟩)]] w (SameP w (allEq sameM l m)) := by
  have HC := Aside0.mk hC
  have HC2 := Aside0.mk hC2
  have hm1 := Kd.C_max hC
  have hm2 := Kd.C_max hC2
  clear hC hC2
  have HP := Aside0.mk hp
  clear hp
  by_cases hlen : l.length = m.length
  · have d1 : ((l.length : Int) != (m.length : Int)) = false := by rw [bne_eq_false_iff_eq]; omega
    have HLEN := Aside0.mk hlen
    clear hlen
    go_enter Tryz.func53, Tryz.ntmps53
    go_wp2
    go_loopg [17] l.length (fun n v W => ∃ i : Nat, v = .int .i64 i ∧ Aside0 (allEq sameM (l.drop i) (m.drop i) = allEq sameM l m) ∧ Aside0 (Below w.heap.size w W) ∧ Aside0 (i + n = l.length))
    case atStart => exact ⟨0, rfl, ⟨rfl⟩, ⟨Below.refl _ _⟩, ⟨by omega⟩⟩
    case round =>
      obtain ⟨i, rfl, HS, HB, HN⟩ := hrel
      by_cases hlt : i < l.length
      · have hlt2 : i < m.length := by have := HLEN.out; omega
        have HT := Aside0.mk ((allEq_step sameM l m i hlt hlt2).symm.trans HS.out)
        clear HS
        have d3 : (0 : Int) ≤ (i : Int) := by omega
        have d4 : (i : Int) < (l.length : Int) := by omega
        have d4' : (i : Int) < (m.length : Int) := by omega
        obtain ⟨pad, pA1, pc1, pA2, pc2, pA3, pc3, phad, pz0, pz1, pz2, pz3, pz4, pg1, pr1, pg2, pr2, pg3, pr3⟩ := at_T34 HC.out i d3 d4
        obtain ⟨x, hx⟩ : ∃ x, x = l[i]'hlt := ⟨_, rfl⟩
        have phrd : rd_T34 l i = x := by unfold rd_T34; rw [hx, List.getD_eq_getElem?_getD]; simp [hlt, hlt2]
        rw [phrd] at pz0 pz1 pz2 pz3 pz4 pg1 pr1 pg2 pr2 pg3 pr3
        rw [Int.toNat_natCast] at pz0 pz1 pz2 pz3 pz4
        replace pz0 := (HB.out.cell (World.block_lt_of_cell? w _ pz0)).trans pz0
        replace pz1 := (HB.out.cell (World.block_lt_of_cell? w _ pz1)).trans pz1
        replace pz2 := (HB.out.cell (World.block_lt_of_cell? w _ pz2)).trans pz2
        replace pz3 := (HB.out.cell (World.block_lt_of_cell? w _ pz3)).trans pz3
        replace pz4 := (HB.out.cell (World.block_lt_of_cell? w _ pz4)).trans pz4
        have pG1 := Aside0.mk pg1
        have pR1 := Aside0.mk pr1
        have pG2 := Aside0.mk pg2
        have pR2 := Aside0.mk pr2
        have pG3 := Aside0.mk pg3
        have pR3 := Aside0.mk pr3
        clear phrd pg1 pr1 pg2 pr2 pg3 pr3
        subst phad
        obtain ⟨qad, qA1, qc1, qA2, qc2, qA3, qc3, qhad, qz0, qz1, qz2, qz3, qz4, qg1, qr1, qg2, qr2, qg3, qr3⟩ := at_T34 HC2.out i d3 d4'
        obtain ⟨y, hy⟩ : ∃ y, y = m[i]'hlt2 := ⟨_, rfl⟩
        have qhrd : rd_T34 m i = y := by unfold rd_T34; rw [hy, List.getD_eq_getElem?_getD]; simp [hlt, hlt2]
        rw [qhrd] at qz0 qz1 qz2 qz3 qz4 qg1 qr1 qg2 qr2 qg3 qr3
        rw [Int.toNat_natCast] at qz0 qz1 qz2 qz3 qz4
        replace qz0 := (HB.out.cell (World.block_lt_of_cell? w _ qz0)).trans qz0
        replace qz1 := (HB.out.cell (World.block_lt_of_cell? w _ qz1)).trans qz1
        replace qz2 := (HB.out.cell (World.block_lt_of_cell? w _ qz2)).trans qz2
        replace qz3 := (HB.out.cell (World.block_lt_of_cell? w _ qz3)).trans qz3
        replace qz4 := (HB.out.cell (World.block_lt_of_cell? w _ qz4)).trans qz4
        have qG1 := Aside0.mk qg1
        have qR1 := Aside0.mk qr1
        have qG2 := Aside0.mk qg2
        have qR2 := Aside0.mk qr2
        have qG3 := Aside0.mk qg3
        have qR3 := Aside0.mk qr3
        clear qhrd qg1 qr1 qg2 qr2 qg3 qr3
        subst qhad
        have qz0' := pw_cell_below (below_alloc (Below.refl _ wr) (.cells #[.string x.f0, .slice pA1 x.f1.length pc1, .slice pA2 x.f2.length pc2, .slice pA3 x.f3.length pc3, .int .i64 x.f4] 34 (0, 0))) qz0
        have qz1' := pw_cell_below (below_alloc (Below.refl _ wr) (.cells #[.string x.f0, .slice pA1 x.f1.length pc1, .slice pA2 x.f2.length pc2, .slice pA3 x.f3.length pc3, .int .i64 x.f4] 34 (0, 0))) qz1
        have qz2' := pw_cell_below (below_alloc (Below.refl _ wr) (.cells #[.string x.f0, .slice pA1 x.f1.length pc1, .slice pA2 x.f2.length pc2, .slice pA3 x.f3.length pc3, .int .i64 x.f4] 34 (0, 0))) qz2
        have qz3' := pw_cell_below (below_alloc (Below.refl _ wr) (.cells #[.string x.f0, .slice pA1 x.f1.length pc1, .slice pA2 x.f2.length pc2, .slice pA3 x.f3.length pc3, .int .i64 x.f4] 34 (0, 0))) qz3
        have qz4' := pw_cell_below (below_alloc (Below.refl _ wr) (.cells #[.string x.f0, .slice pA1 x.f1.length pc1, .slice pA2 x.f2.length pc2, .slice pA3 x.f3.length pc3, .int .i64 x.f4] 34 (0, 0))) qz4
        clear qz0 qz1 qz2 qz3 qz4
        rw [← hx, ← hy] at HT
        clear hx hy
        obtain ⟨b, hb⟩ : ∃ b, sameM x y = b := ⟨_, rfl⟩
        rw [hb] at HT
        have HBX := Aside0.mk hb
        clear hb
        cases gk with
        | zero => have := HN.out; omega
        | succ k1 =>
          cases b
          · have hF : Aside0 (false = allEq sameM l m) := ⟨by rw [← HT.out, Bool.false_and]⟩
            clear HT
            go_wp2_with (go_at_call 46; refine (HBX.out ▸ same_m x y _ _ _ _ _ _ _ _ _ _ _ _ p _ (pw_cell_below (below_alloc (below_alloc HB.out _) _) HP.out) (Kd.C_below pR1.out (below_alloc (below_alloc HB.out _) _)) (Kd.C_below pR2.out (below_alloc (below_alloc HB.out _) _)) (Kd.C_below pR3.out (below_alloc (below_alloc HB.out _) _)) (Kd.C_below qR1.out (below_alloc (below_alloc HB.out _) _)) (Kd.C_below qR2.out (below_alloc (below_alloc HB.out _) _)) (Kd.C_below qR3.out (below_alloc (below_alloc HB.out _) _)) pG1.out pG2.out pG3.out qG1.out qG2.out qG3.out).mono ?_; rintro e W1 ⟨rfl, hB1⟩)
            go_ret
            exact ⟨by rw [← hF.out]; rfl, below_step (below_alloc (below_alloc HB.out _) _) hB1⟩
          · have hT : Aside0 (allEq sameM (l.drop (i + 1)) (m.drop (i + 1)) = allEq sameM l m) := ⟨by rw [← HT.out, Bool.true_and]⟩
            clear HT
            go_wp2_with (go_at_call 46; refine (HBX.out ▸ same_m x y _ _ _ _ _ _ _ _ _ _ _ _ p _ (pw_cell_below (below_alloc (below_alloc HB.out _) _) HP.out) (Kd.C_below pR1.out (below_alloc (below_alloc HB.out _) _)) (Kd.C_below pR2.out (below_alloc (below_alloc HB.out _) _)) (Kd.C_below pR3.out (below_alloc (below_alloc HB.out _) _)) (Kd.C_below qR1.out (below_alloc (below_alloc HB.out _) _)) (Kd.C_below qR2.out (below_alloc (below_alloc HB.out _) _)) (Kd.C_below qR3.out (below_alloc (below_alloc HB.out _) _)) pG1.out pG2.out pG3.out qG1.out qG2.out qG3.out).mono ?_; rintro e W1 ⟨rfl, hB1⟩)
            go_roundg k1
            case measure => omega
            case rel => exact ⟨i + 1, by go_num, hT, ⟨below_step (below_alloc (below_alloc HB.out _) _) hB1⟩, ⟨by have := HN.out; omega⟩⟩
      · have hF : Aside0 (true = allEq sameM l m) := ⟨by rw [← HS.out, List.drop_of_length_le (by omega), List.drop_of_length_le (by have := HLEN.out; omega)]; rfl⟩
        clear HS
        go_wp2
        go_ret
        exact ⟨by rw [← hF.out]; rfl, HB.out⟩
  · have d1 : ((l.length : Int) != (m.length : Int)) = true := by rw [bne_iff_ne]; omega
    have HF := Aside0.mk (allEq_len sameM l m hlen)
    clear hlen
    go_enter Tryz.func53, Tryz.ntmps53
    rw [HF.out]
    go_wp2
    go_ret
    exact ⟨rfl, Below.refl _ _⟩
set_option maxRecDepth 100000 in
set_option maxHeartbeats 4000000 in
theorem eqf_E (l m : List (S68)) (A A2 : Option Addr) (c c2 : Nat) (w : World) (hC : k68.C w A l.length l) (hC2 : k68.C w A2 m.length m) (hc : l.length ≤ c) (hc2 : m.length ≤ c2) (p : Nat) (hp : w.cell? ⟨p, 0, none⟩ = some (.func (.func 50) #[] #[])) :
    Calls Tryz.prog 54 #[.slice A l.length c, .slice A2 m.length c2, .func (.func 51) #[] #[.pointer (some ⟨p, 0, none⟩)]] w (SameP w (allEq sameE l m)) := by
  have HC := Aside0.mk hC
  have HC2 := Aside0.mk hC2
  have hm1 := Kd.C_max hC
  have hm2 := Kd.C_max hC2
  clear hC hC2
  have HP := Aside0.mk hp
  clear hp
  by_cases hlen : l.length = m.length
  · have d1 : ((l.length : Int) != (m.length : Int)) = false := by rw [bne_eq_false_iff_eq]; omega
    have HLEN := Aside0.mk hlen
    clear hlen
    go_enter Tryz.func54, Tryz.ntmps54
    go_wp2
    go_loopg [17] l.length (fun n v W => ∃ i : Nat, v = .int .i64 i ∧ Aside0 (allEq sameE (l.drop i) (m.drop i) = allEq sameE l m) ∧ Aside0 (Below w.heap.size w W) ∧ Aside0 (i + n = l.length))
    case atStart => exact ⟨0, rfl, ⟨rfl⟩, ⟨Below.refl _ _⟩, ⟨by omega⟩⟩
    case round =>
      obtain ⟨i, rfl, HS, HB, HN⟩ := hrel
      by_cases hlt : i < l.length
      · have hlt2 : i < m.length := by have := HLEN.out; omega
        have HT := Aside0.mk ((allEq_step sameE l m i hlt hlt2).symm.trans HS.out)
        clear HS
        have d3 : (0 : Int) ≤ (i : Int) := by omega
        have d4 : (i : Int) < (l.length : Int) := by omega
        have d4' : (i : Int) < (m.length : Int) := by omega
        obtain ⟨pad, pA1, pc1, phad, pz0, pz1, pz2, pg1, pr1⟩ := at_T68 HC.out i d3 d4
        obtain ⟨x, hx⟩ : ∃ x, x = l[i]'hlt := ⟨_, rfl⟩
        have phrd : rd_T68 l i = x := by unfold rd_T68; rw [hx, List.getD_eq_getElem?_getD]; simp [hlt, hlt2]
        rw [phrd] at pz0 pz1 pz2 pg1 pr1
        rw [Int.toNat_natCast] at pz0 pz1 pz2
        replace pz0 := (HB.out.cell (World.block_lt_of_cell? w _ pz0)).trans pz0
        replace pz1 := (HB.out.cell (World.block_lt_of_cell? w _ pz1)).trans pz1
        replace pz2 := (HB.out.cell (World.block_lt_of_cell? w _ pz2)).trans pz2
        have pG1 := Aside0.mk pg1
        have pR1 := Aside0.mk pr1
        clear phrd pg1 pr1
        subst phad
        obtain ⟨qad, qA1, qc1, qhad, qz0, qz1, qz2, qg1, qr1⟩ := at_T68 HC2.out i d3 d4'
        obtain ⟨y, hy⟩ : ∃ y, y = m[i]'hlt2 := ⟨_, rfl⟩
        have qhrd : rd_T68 m i = y := by unfold rd_T68; rw [hy, List.getD_eq_getElem?_getD]; simp [hlt, hlt2]
        rw [qhrd] at qz0 qz1 qz2 qg1 qr1
        rw [Int.toNat_natCast] at qz0 qz1 qz2
        replace qz0 := (HB.out.cell (World.block_lt_of_cell? w _ qz0)).trans qz0
        replace qz1 := (HB.out.cell (World.block_lt_of_cell? w _ qz1)).trans qz1
        replace qz2 := (HB.out.cell (World.block_lt_of_cell? w _ qz2)).trans qz2
        have qG1 := Aside0.mk qg1
        have qR1 := Aside0.mk qr1
        clear qhrd qg1 qr1
        subst qhad
        have qz0' := pw_cell_below (below_alloc (Below.refl _ wr) (.cells #[.string x.f0, .slice pA1 x.f1.length pc1, .int .i64 x.f2] 68 (0, 0))) qz0
        have qz1' := pw_cell_below (below_alloc (Below.refl _ wr) (.cells #[.string x.f0, .slice pA1 x.f1.length pc1, .int .i64 x.f2] 68 (0, 0))) qz1
        have qz2' := pw_cell_below (below_alloc (Below.refl _ wr) (.cells #[.string x.f0, .slice pA1 x.f1.length pc1, .int .i64 x.f2] 68 (0, 0))) qz2
        clear qz0 qz1 qz2
        rw [← hx, ← hy] at HT
        clear hx hy
        obtain ⟨b, hb⟩ : ∃ b, sameE x y = b := ⟨_, rfl⟩
        rw [hb] at HT
        have HBX := Aside0.mk hb
        clear hb
        cases gk with
        | zero => have := HN.out; omega
        | succ k1 =>
          cases b
          · have hF : Aside0 (false = allEq sameE l m) := ⟨by rw [← HT.out, Bool.false_and]⟩
            clear HT
            go_wp2_with (go_at_call 51; refine (HBX.out ▸ same_e x y _ _ _ _ p _ (pw_cell_below (below_alloc (below_alloc HB.out _) _) HP.out) (Kd.C_below pR1.out (below_alloc (below_alloc HB.out _) _)) (Kd.C_below qR1.out (below_alloc (below_alloc HB.out _) _)) pG1.out qG1.out).mono ?_; rintro e W1 ⟨rfl, hB1⟩)
            go_ret
            exact ⟨by rw [← hF.out]; rfl, below_step (below_alloc (below_alloc HB.out _) _) hB1⟩
          · have hT : Aside0 (allEq sameE (l.drop (i + 1)) (m.drop (i + 1)) = allEq sameE l m) := ⟨by rw [← HT.out, Bool.true_and]⟩
            clear HT
            go_wp2_with (go_at_call 51; refine (HBX.out ▸ same_e x y _ _ _ _ p _ (pw_cell_below (below_alloc (below_alloc HB.out _) _) HP.out) (Kd.C_below pR1.out (below_alloc (below_alloc HB.out _) _)) (Kd.C_below qR1.out (below_alloc (below_alloc HB.out _) _)) pG1.out qG1.out).mono ?_; rintro e W1 ⟨rfl, hB1⟩)
            go_roundg k1
            case measure => omega
            case rel => exact ⟨i + 1, by go_num, hT, ⟨below_step (below_alloc (below_alloc HB.out _) _) hB1⟩, ⟨by have := HN.out; omega⟩⟩
      · have hF : Aside0 (true = allEq sameE l m) := ⟨by rw [← HS.out, List.drop_of_length_le (by omega), List.drop_of_length_le (by have := HLEN.out; omega)]; rfl⟩
        clear HS
        go_wp2
        go_ret
        exact ⟨by rw [← hF.out]; rfl, HB.out⟩
  · have d1 : ((l.length : Int) != (m.length : Int)) = true := by rw [bne_iff_ne]; omega
    have HF := Aside0.mk (allEq_len sameE l m hlen)
    clear hlen
    go_enter Tryz.func54, Tryz.ntmps54
    rw [HF.out]
    go_wp2
    go_ret
    exact ⟨rfl, Below.refl _ _⟩
end Go.Proofs.YtddpjjhekhompaaGreatDoor.P
namespace Go.Proofs.YtddpjjhekhompaaGreatDoor.P
open Go.RowKit Go.Proofs.YtddpjjhekhompaaGreatDoorW.PrintWords Go.Proofs.YtddpjjhekhompaaGreatDoorW.PrintLast Go.Proofs.YtddpjjhekhompaaGreatDoorW.PrintMore
set_option linter.unusedVariables false
set_option linter.unusedSimpArgs false
def sameFile (l0 : List (S34)) (l1 : List (S68)) (m0 : List (S34)) (m1 : List (S68)) : Bool := allEq sameM l0 m0 && allEq sameE l1 m1
def proto_Same.f (l0_0 : List (S34)) (l0_1 : List (S68)) (l1_0 : List (S34)) (l1_1 : List (S68)) : Option Bool := some (sameFile l0_0 l0_1 l1_0 l1_1)
set_option maxRecDepth 100000 in
set_option maxHeartbeats 4000000 in
theorem proto_Same.calls (A0_0 : Option Addr) (c0_0 : Nat) (l0_0 : List (S34)) (A0_1 : Option Addr) (c0_1 : Nat) (l0_1 : List (S68)) (A1_0 : Option Addr) (c1_0 : Nat) (l1_0 : List (S34)) (A1_1 : Option Addr) (c1_1 : Nat) (l1_1 : List (S68)) (r : Bool) (w : World)
    (hr0_0 : Kd.C k34 w A0_0 l0_0.length l0_0) (hc0_0 : l0_0.length ≤ c0_0) (hr0_1 : Kd.C k68 w A0_1 l0_1.length l0_1) (hc0_1 : l0_1.length ≤ c0_1) (hr1_0 : Kd.C k34 w A1_0 l1_0.length l1_0) (hc1_0 : l1_0.length ≤ c1_0) (hr1_1 : Kd.C k68 w A1_1 l1_1.length l1_1) (hc1_1 : l1_1.length ≤ c1_1)
    (h : proto_Same.f l0_0 l0_1 l1_0 l1_1 = some r) :
    Calls Tryz.prog 15 #[.agg #[.slice A0_0 l0_0.length c0_0, .slice A0_1 l0_1.length c0_1], .agg #[.slice A1_0 l1_0.length c1_0, .slice A1_1 l1_1.length c1_1]] w fun e w' => e = .returned (.bool r) ∧ Below w.heap.size w w' := by
  have hst1 := fun (a : Addr) (W : World) => run_store Tryz.prog W a (.func (.func 45) #[] #[]) .plain rfl
  have hst2 := fun (a : Addr) (W : World) => run_store Tryz.prog W a (.func (.func 50) #[] #[]) .plain rfl
  have HV2 := Aside0.mk (Option.some.inj h)
  unfold sameFile at HV2
  have R0 := Aside0.mk hr0_0
  have R1 := Aside0.mk hr0_1
  have S0 := Aside0.mk hr1_0
  have S1 := Aside0.mk hr1_1
  clear hr0_0 hr0_1 hr1_0 hr1_1 h
  go_enter Tryz.func15, Tryz.ntmps15
  go_wp2_with fail
  clear hst1 hst2
  have q0 := blk_alloc (blk_alloc (blk_alloc (blk_new w (.cells #[.slice A0_0 l0_0.length c0_0, .slice A0_1 l0_1.length c0_1] 26 (0, 0))) (.cells #[.slice A1_0 l1_0.length c1_0, .slice A1_1 l1_1.length c1_1] 26 (0, 0))) (.cells #[.func (.func 45) #[] #[]] 95 (0, 0))) (.cells #[.func (.func 50) #[] #[]] 100 (0, 0))
  have q1 := blk_alloc (blk_alloc (blk_new (w.alloc (.cells #[.slice A0_0 l0_0.length c0_0, .slice A0_1 l0_1.length c0_1] 26 (0, 0))) (.cells #[.slice A1_0 l1_0.length c1_0, .slice A1_1 l1_1.length c1_1] 26 (0, 0))) (.cells #[.func (.func 45) #[] #[]] 95 (0, 0))) (.cells #[.func (.func 50) #[] #[]] 100 (0, 0))
  have q2 := blk_alloc (blk_new ((w.alloc (.cells #[.slice A0_0 l0_0.length c0_0, .slice A0_1 l0_1.length c0_1] 26 (0, 0))).alloc (.cells #[.slice A1_0 l1_0.length c1_0, .slice A1_1 l1_1.length c1_1] 26 (0, 0))) (.cells #[.func (.func 45) #[] #[]] 95 (0, 0))) (.cells #[.func (.func 50) #[] #[]] 100 (0, 0))
  have q3 := blk_new (((w.alloc (.cells #[.slice A0_0 l0_0.length c0_0, .slice A0_1 l0_1.length c0_1] 26 (0, 0))).alloc (.cells #[.slice A1_0 l1_0.length c1_0, .slice A1_1 l1_1.length c1_1] 26 (0, 0))).alloc (.cells #[.func (.func 45) #[] #[]] 95 (0, 0))) (.cells #[.func (.func 50) #[] #[]] 100 (0, 0))
  have qb := below_alloc (below_alloc (below_alloc (below_alloc (Below.refl w.heap.size w) (.cells #[.slice A0_0 l0_0.length c0_0, .slice A0_1 l0_1.length c0_1] 26 (0, 0))) (.cells #[.slice A1_0 l1_0.length c1_0, .slice A1_1 l1_1.length c1_1] 26 (0, 0))) (.cells #[.func (.func 45) #[] #[]] 95 (0, 0))) (.cells #[.func (.func 50) #[] #[]] 100 (0, 0))
  simp only [World.size_alloc] at q1 q2 q3
  generalize (((w.alloc (.cells #[.slice A0_0 l0_0.length c0_0, .slice A0_1 l0_1.length c0_1] 26 (0, 0))).alloc (.cells #[.slice A1_0 l1_0.length c1_0, .slice A1_1 l1_1.length c1_1] 26 (0, 0))).alloc (.cells #[.func (.func 45) #[] #[]] 95 (0, 0))).alloc (.cells #[.func (.func 50) #[] #[]] 100 (0, 0)) = V0 at *
  have HB0 := Aside0.mk qb
  have HX0 := Aside0.mk q0
  have HY0 := Aside0.mk q1
  have HF0 := Aside0.mk q2
  have HG0 := Aside0.mk q3
  clear q0 q1 q2 q3 qb
  go_at_call 53
  refine (eqf_M l0_0 l1_0 A0_0 A1_0 c0_0 c1_0 V0 (Kd.C_below R0.out HB0.out) (Kd.C_below S0.out HB0.out) hc0_0 hc1_0 (w.heap.size + 1 + 1) ((blk_cell HF0.out 0).trans rfl)).mono ?_
  rintro e1 W1 ⟨rfl, hB1⟩
  have HX1 := Aside0.mk (blk_below HX0.out hB1)
  have HY1 := Aside0.mk (blk_below HY0.out hB1)
  have HG1 := Aside0.mk (blk_below HG0.out hB1)
  have HB1 := Aside0.mk (HB0.out.trans (hB1.mono HB0.out.size))
  clear HX0 HY0 HF0 HG0 HB0 hB1
  obtain ⟨b, hb⟩ : ∃ b, allEq sameM l0_0 l1_0 = b := ⟨_, rfl⟩
  rw [hb] at HV2 ⊢
  clear hb
  cases b
  · go_wp2_with fail
    go_ret
    exact ⟨by rw [← HV2.out, Bool.false_and]; rfl, HB1.out⟩
  · have x1 : W1.cell? ⟨w.heap.size, 1, none⟩ = some (.slice A0_1 l0_1.length c0_1) := (blk_cell HX1.out 1).trans rfl
    have y1 : W1.cell? ⟨w.heap.size + 1, 1, none⟩ = some (.slice A1_1 l1_1.length c1_1) := (blk_cell HY1.out 1).trans rfl
    go_wp2_with fail
    clear x1 y1
    go_at_call 54
    refine (eqf_E l0_1 l1_1 A0_1 A1_1 c0_1 c1_1 _ (Kd.C_below R1.out HB1.out) (Kd.C_below S1.out HB1.out) hc0_1 hc1_1 (w.heap.size + 1 + 1 + 1) ((blk_cell HG1.out 0).trans rfl)).mono ?_
    rintro e2 W2 ⟨rfl, hB2⟩
    have HB2 := Aside0.mk (HB1.out.trans (hB2.mono HB1.out.size))
    clear HX1 HY1 HG1 HB1 hB2
    obtain ⟨b, hb⟩ : ∃ b, allEq sameE l0_1 l1_1 = b := ⟨_, rfl⟩
    rw [hb] at HV2 ⊢
    clear hb
    go_wp2_with fail
    go_ret
    exact ⟨by rw [← HV2.out, Bool.true_and]; rfl, HB2.out⟩
end Go.Proofs.YtddpjjhekhompaaGreatDoor.P
namespace Go.Proofs.YtddpjjhekhompaaGreatDoor.P
open Go.RowKit Go.Proofs.YtddpjjhekhompaaGreatDoorW.PrintWords Go.Proofs.YtddpjjhekhompaaGreatDoorW.PrintLast Go.Proofs.YtddpjjhekhompaaGreatDoorW.PrintMore
set_option linter.unusedVariables false
set_option linter.unusedSimpArgs false
mutual
def trufflelaw07_ProtoBlanks.j0 : Nat → ByteArray → Int → Bool → Bool → Option (Bool)
  | 0, _, _, _, _ => none
  | k + 1, x0, x1, x5, x29 => if x29 = true then (some x5) else (trufflelaw07_ProtoBlanks.l0 k x0 x1 (⟨#[47, 47, 10]⟩ : ByteArray) 0)
def trufflelaw07_ProtoBlanks.l0 : Nat → ByteArray → Int → ByteArray → Int → Option (Bool)
  | 0, _, _, _, _ => none
  | k + 1, x0, x1, x6, x7 => if x7 < x1 then (if x6.size + 1 ≤ 9223372036854775807 then (trufflelaw07_ProtoBlanks.l0 k x0 x1 (x6 ++ (⟨#[32]⟩ : ByteArray)) (wrap64 (x7 + 1))) else (none)) else ((proto_Parse.f x0).bind fun bt188 => (if x6.size + x0.size ≤ 9223372036854775807 then ((proto_Parse.f (x6 ++ x0)).bind fun bt197 => (if bt188.2.2.2 = bt197.2.2.2 then ((proto_Same.f bt188.1 bt188.2.1 bt197.1 bt197.2.1).bind fun t206 => (if t206 = true then (some (bt197.2.2.1 == (wrap64 (bt188.2.2.1 + (x6.size : Int))))) else (some false))) else (some false))) else (none)))
end
def trufflelaw07_ProtoBlanks.f (k : Nat) (a0 : ByteArray) (a1 : Int) : Option (Bool) := (trufflelaw07_awake.f).bind fun t187 => (if t187 = true then (if (a0.size : Int) > 1500 then (trufflelaw07_ProtoBlanks.j0 k a0 a1 t187 true) else (if a1 < 0 then (trufflelaw07_ProtoBlanks.j0 k a0 a1 t187 true) else (trufflelaw07_ProtoBlanks.j0 k a0 a1 t187 (decide (a1 > 100))))) else (trufflelaw07_ProtoBlanks.j0 k a0 a1 t187 true))
set_option maxHeartbeats 8000000 in
set_option maxRecDepth 100000 in
theorem trufflelaw07_ProtoBlanks.calls (k : Nat) (a0 : ByteArray) (a1 : Int) (w : World) (hG : GInv w) (h : trufflelaw07_ProtoBlanks.f k a0 a1 = some true) :
    Calls Tryz.prog 4 #[.string a0, .int .i64 a1] w fun e w' => e = .returned (.bool true) ∧ Below w.heap.size w w' := by
  have hu26 := Tryz.underlying26
  have HB := Aside0.mk (Below.refl w.heap.size w)
  have H : ((trufflelaw07_awake.f).bind fun t187 => (if t187 = true then (if (a0.size : Int) > 1500 then (trufflelaw07_ProtoBlanks.j0 k a0 a1 t187 true) else (if a1 < 0 then (trufflelaw07_ProtoBlanks.j0 k a0 a1 t187 true) else (trufflelaw07_ProtoBlanks.j0 k a0 a1 t187 (decide (a1 > 100))))) else (trufflelaw07_ProtoBlanks.j0 k a0 a1 t187 true))) = some true := h
  clear h
  replace H := Option.bind_eq_some_iff.mp H
  obtain ⟨t187, A30, H⟩ := H
  replace H : (if t187 = true then (if (a0.size : Int) > 1500 then (trufflelaw07_ProtoBlanks.j0 k a0 a1 t187 true) else (if a1 < 0 then (trufflelaw07_ProtoBlanks.j0 k a0 a1 t187 true) else (trufflelaw07_ProtoBlanks.j0 k a0 a1 t187 (decide (a1 > 100))))) else (trufflelaw07_ProtoBlanks.j0 k a0 a1 t187 true)) = some true := H
  have A3 := Aside0.mk A30
  clear A30
  have HC4 := Aside0.mk H
  clear H
  go_enter Tryz.func4, Tryz.ntmps4
  go_upto_region 2 with (first | ((with_reducible refine gate_callee (f := 12) rfl ?_); refine goesL_ (some 14) rfl rfl Tryz.func12 (by kernel_rfl) rfl #[] rfl (by (try simp only [List.map_toArray, List.map_cons, List.map_nil]); first | done | rfl | (simp only [List.length_drop, List.length_take]; rfl)) ?_; (with_reducible refine (trufflelaw07_awake.calls  t187 _ ?side1 A3.out).mono ?_); (case side1 => exact hG.below (by repeat (first | (with_reducible first | exact HB.out | apply below_alloc | apply pw_below_drewN | apply below_drew1) | exact HB.out))); rintro e w5 ⟨rfl, hb⟩; refine ⟨_, rfl, ?_⟩; have n0_ := Aside0.mk (below_step (by repeat (first | (with_reducible first | exact HB.out | apply below_alloc | apply pw_below_drewN | apply below_drew1) | exact HB.out)) hb); clear HB; have HB := n0_; clear n0_; (try clear hb); (try clear hb2); (try clear hk); (try clear hi)))
  (try simp only [Act.put, List.setIfInBounds_toArray, List.set_cons_zero, List.set_cons_succ])
  go_cut [29] (fun v29 wc => ∃ (kq : Nat) (x29_3 : Bool), v29 = .bool x29_3 ∧ Aside0 (trufflelaw07_ProtoBlanks.j0 kq a0 a1 t187 x29_3 = some true) ∧ Aside0 (kq ≤ k) ∧ Aside0 (Below w.heap.size w wc))
  case first =>
    have H := HC4.out
    clear HC4
    by_cases c6 : t187 = true
    · subst c6
      have H1 : (if (a0.size : Int) > 1500 then (trufflelaw07_ProtoBlanks.j0 k a0 a1 true true) else (if a1 < 0 then (trufflelaw07_ProtoBlanks.j0 k a0 a1 true true) else (trufflelaw07_ProtoBlanks.j0 k a0 a1 true (decide (a1 > 100))))) = some true := by first | (rw [if_pos rfl] at H; exact H) | rfl
      clear H
      have H := H1
      clear H1
      by_cases c7 : (a0.size : Int) > 1500
      · rw [if_pos c7] at H
        have c7b0 : decide (1500 < (a0.size : Int)) = true := decide_eq_true c7
        have c7b1 : decide (1500 < a0.size) = true := decide_eq_true (by omega)
        clear c7
        (first | rw [c7b0] | (simp only []; rw [c7b0]) | skip)
        have H' := Aside0.mk H
        clear H
        go_wp2
        go_meet
        case rel => exact ⟨_, (true), (by first | rfl | (simp; done) | (simp [*]; done)), H', ⟨by first | omega | exact Nat.le_refl _⟩, ⟨by repeat (first | (with_reducible first | exact HB.out | apply below_alloc | apply pw_below_drewN | apply below_drew1) | exact HB.out)⟩⟩
      · rw [if_neg c7] at H
        have c7b0 : decide (1500 < (a0.size : Int)) = false := decide_eq_false c7
        have c7b1 : decide (1500 < a0.size) = false := decide_eq_false (by omega)
        clear c7
        (first | rw [c7b0] | (simp only []; rw [c7b0]) | skip)
        by_cases c8 : a1 < 0
        · rw [if_pos c8] at H
          have c8b0 : decide (a1 < 0) = true := decide_eq_true c8
          clear c8
          have H' := Aside0.mk H
          clear H
          go_wp2
          go_meet
          case rel => exact ⟨_, (true), (by first | rfl | (simp; done) | (simp [*]; done)), H', ⟨by first | omega | exact Nat.le_refl _⟩, ⟨by repeat (first | (with_reducible first | exact HB.out | apply below_alloc | apply pw_below_drewN | apply below_drew1) | exact HB.out)⟩⟩
        · rw [if_neg c8] at H
          have c8b0 : decide (a1 < 0) = false := decide_eq_false c8
          clear c8
          have H' := Aside0.mk H
          clear H
          go_wp2
          go_meet
          case rel => exact ⟨_, (decide (a1 > 100)), (by first | rfl | (simp; done) | (simp [*]; done)), H', ⟨by first | omega | exact Nat.le_refl _⟩, ⟨by repeat (first | (with_reducible first | exact HB.out | apply below_alloc | apply pw_below_drewN | apply below_drew1) | exact HB.out)⟩⟩
    · replace c6 := Bool.eq_false_iff.mpr c6
      subst c6
      have H1 : (trufflelaw07_ProtoBlanks.j0 k a0 a1 false true) = some true := by first | (rw [if_neg (show ¬ (false = true) by decide)] at H; exact H) | rfl
      clear H
      have H := H1
      clear H1
      have H' := Aside0.mk H
      clear H
      go_wp2
      go_meet
      case rel => exact ⟨_, (true), (by first | rfl | (simp; done) | (simp [*]; done)), H', ⟨by first | omega | exact Nat.le_refl _⟩, ⟨by repeat (first | (with_reducible first | exact HB.out | apply below_alloc | apply pw_below_drewN | apply below_drew1) | exact HB.out)⟩⟩
  case rest =>
    clear HC4
    try clear c1
    try clear p2
    try clear c4
    try clear c6
    try clear c7
    try clear c7b0
    try clear c7b1
    try clear c8
    try clear c8b0
    obtain ⟨kq, x29_3, rfl, HA, HJ3, HB⟩ := hcut
    cases kq with
    | zero => exact absurd HA.out (by simp [trufflelaw07_ProtoBlanks.j0])
    | succ kj3 =>
      have H := HA.out
      clear HA
      simp only [trufflelaw07_ProtoBlanks.j0] at H
      by_cases c9 : x29_3 = true
      · subst c9
        have H1 : (some t187) = some true := by first | (rw [if_pos rfl] at H; exact H) | rfl
        clear H
        have H := H1
        clear H1
        have hv_ := Option.some.inj H
        go_wp2
        go_ret
        exact ⟨by first | rfl | (rw [hv_]; done) | (simp [hv_]; done) | (simp [← hv_]; done) | (simp [] <;> rfl) | (simp [*] <;> rfl), by repeat (first | (with_reducible first | exact HB.out | apply below_alloc | apply pw_below_drewN | apply below_drew1) | exact HB.out)⟩
      · replace c9 := Bool.eq_false_iff.mpr c9
        subst c9
        have H1 : (trufflelaw07_ProtoBlanks.l0 kj3 a0 a1 (⟨#[47, 47, 10]⟩ : ByteArray) 0) = some true := by first | (rw [if_neg (show ¬ (false = true) by decide)] at H; exact H) | rfl
        clear H
        have H := H1
        clear H1
        have H' := Aside0.mk H
        clear H
        go_wp2
        go_loopg [6, 7] kj3 (fun kq v6 v7 w' => ∃ (x6_2 : ByteArray) (x7_2 : Int), v6 = .string x6_2 ∧ v7 = .int .i64 x7_2 ∧ Aside0 (trufflelaw07_ProtoBlanks.l0 kq a0 a1 x6_2 x7_2 = some true) ∧ Aside0 (kq ≤ kj3) ∧ Aside0 (Below w.heap.size w w'))
        case atStart => exact ⟨((⟨#[47, 47, 10]⟩ : ByteArray)), (0), (by first | rfl | (simp; done) | (simp [*]; done)), (by first | rfl | (simp; done) | (simp [*]; done)), H', ⟨Nat.le_refl _⟩, ⟨by repeat (first | (with_reducible first | exact HB.out | apply below_alloc | apply pw_below_drewN | apply below_drew1) | exact HB.out)⟩⟩
        case round =>
          clear H'
          try clear c1
          try clear p2
          try clear c4
          try clear c6
          try clear c7
          try clear c7b0
          try clear c7b1
          try clear c8
          try clear c8b0
          try clear c9
          try clear p2
          obtain ⟨x6_2, x7_2, rfl, rfl, HA, HK2, HB⟩ := hrel
          cases gk with
          | zero => exact absurd HA.out (by simp [trufflelaw07_ProtoBlanks.l0])
          | succ k2 =>
            have H := HA.out
            clear HA
            simp only [trufflelaw07_ProtoBlanks.l0] at H
            by_cases c10 : x7_2 < a1
            · rw [if_pos c10] at H
              have c10b0 : decide (x7_2 < a1) = true := decide_eq_true c10
              clear c10
              by_cases c11 : x6_2.size + 1 ≤ 9223372036854775807
              · rw [if_pos c11] at H
                have c11b0 := eq_true c11
                have c11b1 : decide (x6_2.size + 1 ≤ 9223372036854775807) = true := decide_eq_true c11
                try have c11b2 : (9223372036854775807 < x6_2.size + 1) = False := eq_false (Nat.not_lt.2 c11)
                have H' := Aside0.mk H
                clear H
                go_wp2
                go_roundg k2
                case measure => have := HJ3.out; have := HK2.out; omega
                case rel => exact ⟨(x6_2 ++ (⟨#[32]⟩ : ByteArray)), (wrap64 (x7_2 + 1)), (by first | rfl | (simp; done) | (simp [*]; done)), (by first | rfl | (simp; done) | (simp [*]; done)), H', ⟨by have := HJ3.out; have := HK2.out; omega⟩, ⟨by repeat (first | (with_reducible first | exact HB.out | apply below_alloc | apply pw_below_drewN | apply below_drew1) | exact HB.out)⟩⟩
              · rw [if_neg c11] at H
                exact absurd H (by simp)
            · rw [if_neg c10] at H
              have c10b0 : decide (x7_2 < a1) = false := decide_eq_false c10
              clear c10
              replace H := Option.bind_eq_some_iff.mp H
              obtain ⟨⟨t188, t191, t194, t195⟩, A120, H⟩ := H
              replace H : (if x6_2.size + a0.size ≤ 9223372036854775807 then ((proto_Parse.f (x6_2 ++ a0)).bind fun bt197 => (if t195 = bt197.2.2.2 then ((proto_Same.f t188 t191 bt197.1 bt197.2.1).bind fun t206 => (if t206 = true then (some (bt197.2.2.1 == (wrap64 (t194 + (x6_2.size : Int))))) else (some false))) else (some false))) else (none)) = some true := H
              have A12 := Aside0.mk A120
              clear A120
              by_cases c13 : x6_2.size + a0.size ≤ 9223372036854775807
              · rw [if_pos c13] at H
                have c13b0 := eq_true c13
                have c13b1 : decide (x6_2.size + a0.size ≤ 9223372036854775807) = true := decide_eq_true c13
                try have c13b2 : (9223372036854775807 < x6_2.size + a0.size) = False := eq_false (Nat.not_lt.2 c13)
                replace H := Option.bind_eq_some_iff.mp H
                obtain ⟨⟨t197, t200, t203, t204⟩, A140, H⟩ := H
                replace H : (if t195 = t204 then ((proto_Same.f t188 t191 t197 t200).bind fun t206 => (if t206 = true then (some (t203 == (wrap64 (t194 + (x6_2.size : Int))))) else (some false))) else (some false)) = some true := H
                have A14 := Aside0.mk A140
                clear A140
                by_cases c15 : t195 = t204
                · rw [if_pos c15] at H
                  have c15b0 : (t195 == t204) = true := beq_iff_eq.mpr c15
                  have c15b1 : (t195 != t204) = false := bne_eq_false_iff_eq.mpr c15
                  clear c15
                  replace H := Option.bind_eq_some_iff.mp H
                  obtain ⟨t206, A160, H⟩ := H
                  replace H : (if t206 = true then (some (t203 == (wrap64 (t194 + (x6_2.size : Int))))) else (some false)) = some true := H
                  have A16 := Aside0.mk A160
                  clear A160
                  by_cases c17 : t206 = true
                  · subst c17
                    have H1 : (some (t203 == (wrap64 (t194 + (x6_2.size : Int))))) = some true := by first | (rw [if_pos rfl] at H; exact H) | rfl
                    clear H
                    have H := H1
                    clear H1
                    have hv_ := Option.some.inj H
                    go_wp2_with (first | ((with_reducible refine gate_callee (f := 13) rfl ?_); refine goesL_ (some 40) rfl rfl Tryz.func13 (by kernel_rfl) rfl #[.string a0] rfl (by (try simp only [List.map_toArray, List.map_cons, List.map_nil]); first | done | rfl | (simp only [List.length_drop, List.length_take]; rfl)) ?_; (with_reducible refine (proto_Parse.calls a0 t188 t191 t194 t195 _ ?side1 A12.out).mono ?_); (case side1 => exact hG.below (by repeat (first | (with_reducible first | exact HB.out | apply below_alloc | apply pw_below_drewN | apply below_drew1) | exact HB.out))); rintro e w18 ⟨v189, v192, rfl, ho0, ho1, hb⟩; refine ⟨_, rfl, ?_⟩; have n0_ := Aside0.mk (Kd.R_lower ho0 (below_size (by repeat (first | (with_reducible first | exact HB.out | apply below_alloc | apply pw_below_drewN | apply below_drew1) | exact HB.out)))); have n1_ := Aside0.mk (Kd.R_lower ho1 (below_size (by repeat (first | (with_reducible first | exact HB.out | apply below_alloc | apply pw_below_drewN | apply below_drew1) | exact HB.out)))); have n2_ := Aside0.mk (below_step (by repeat (first | (with_reducible first | exact HB.out | apply below_alloc | apply pw_below_drewN | apply below_drew1) | exact HB.out)) hb); clear HB; have HO190 := n0_; have HO193 := n1_; have HB := n2_; clear n0_ n1_ n2_; (try clear hb); (try clear hb2); (try clear hk); (try clear hi); (try clear ho0); (try clear ho1)) | ((with_reducible refine gate_dst (N := 8) rfl ?_); (try (refine gate_guard (by rfl) ?_; dsimp only)); refine box_event ?hg (N := 8) ?hd (cs := #[.slice none 0 0, .slice none 0 0]) (t := 26) ?hr ?_; (case hd => rfl); (case hg => rfl); (case hr => first | (go_simp; done) | (go_simp; rfl)); intro gb196 hg w19 hbox hb; have n0_ := Aside0.mk (Kd.R_below (by (with_reducible repeat (first | apply Kd.R_alloc | apply Kd.R_drewN | apply Kd.R_drew)); exact HO190.out) hb); have n1_ := Aside0.mk (Kd.R_below (by (with_reducible repeat (first | apply Kd.R_alloc | apply Kd.R_drewN | apply Kd.R_drew)); exact HO193.out) hb); have n2_ := Aside0.mk (below_step (by repeat (first | (with_reducible first | exact HB.out | apply below_alloc | apply pw_below_drewN | apply below_drew1) | exact HB.out)) hb); have n3_ := Aside0.mk (hbox); have n4_ := Aside0.mk ((by rw [hg]; exact (below_size (by repeat (first | (with_reducible first | exact HB.out | apply below_alloc | apply pw_below_drewN | apply below_drew1) | exact HB.out))) : w.heap.size ≤ gb196)); have n5_ := Aside0.mk ((by rw [hg]; exact (below_size (by repeat (first | (with_reducible first | exact HB.out | apply below_alloc | apply pw_below_drewN | apply below_drew1) | exact HB.out))) : w.heap.size ≤ gb196)); clear HO190; clear HO193; clear HB; have HO190 := n0_; have HO193 := n1_; have HB := n2_; have BK196 := n3_; have GW196 := n4_; have GE196 := n5_; clear n0_ n1_ n2_ n3_ n4_ n5_; clear hb hbox hg; obtain ⟨Ao20, co20, eo20⟩ := Kd.R_slice HO190.out; subst eo20; have hcz21_0 : w19.cell? ⟨gb196, 0, none⟩ = some (.slice none 0 0) := (blk_cell BK196.out 0).trans rfl; have hcz21_1 : w19.cell? ⟨gb196, 1, none⟩ = some (.slice none 0 0) := (blk_cell BK196.out 1).trans rfl; have hfz21_0 := blk_frozen BK196.out 0; have hfz21_1 := blk_frozen BK196.out 1; obtain ⟨Ao22, co22, eo22⟩ := Kd.R_slice HO193.out; subst eo22) | ((with_reducible refine gate_callee (f := 13) rfl ?_); refine goesL_ (some 48) rfl rfl Tryz.func13 (by kernel_rfl) rfl #[.string (x6_2 ++ a0)] rfl (by (try simp only [List.map_toArray, List.map_cons, List.map_nil]); first | done | rfl | (simp only [List.length_drop, List.length_take]; rfl)) ?_; (with_reducible refine (proto_Parse.calls (x6_2 ++ a0) t197 t200 t203 t204 _ ?side1 A14.out).mono ?_); (case side1 => exact hG.below (by repeat (first | (with_reducible first | exact HB.out | apply below_alloc | apply pw_below_drewN | apply below_drew1 | refine below_set ?_ GE196.out) | exact HB.out))); rintro e w23 ⟨v198, v201, rfl, ho0, ho1, hb⟩; refine ⟨_, rfl, ?_⟩; have n0_ := Aside0.mk (Kd.R_elder' (by (with_reducible repeat (first | apply Kd.R_alloc | apply Kd.R_drewN | apply Kd.R_drew)); exact (Kd.R_mono (Kd.R_far (p := ⟨gb196, 1, none⟩) (Kd.R_far (p := ⟨gb196, 0, none⟩) (Kd.R_types HO190.out BK196.out (by decide)) (fun _ hk => hk.2) (.slice Ao20 t188.length co20)) (fun _ hk => hk.2) (.slice Ao22 t191.length co22)) (fun _ h_ => h_.1))) (Kd.R_base ho0) hb); have n1_ := Aside0.mk (Kd.R_elder' (by (with_reducible repeat (first | apply Kd.R_alloc | apply Kd.R_drewN | apply Kd.R_drew)); exact (Kd.R_mono (Kd.R_far (p := ⟨gb196, 1, none⟩) (Kd.R_far (p := ⟨gb196, 0, none⟩) (Kd.R_types HO193.out BK196.out (by decide)) (fun _ hk => hk.2) (.slice Ao20 t188.length co20)) (fun _ hk => hk.2) (.slice Ao22 t191.length co22)) (fun _ h_ => h_.1))) (Kd.R_base ho1) hb); have n2_ := Aside0.mk (Kd.R_lower (Kd.R_new' ho0 (Kd.R_lt (by (with_reducible repeat (first | apply Kd.R_alloc | apply Kd.R_drewN | apply Kd.R_drew)); exact (Kd.R_mono (Kd.R_far (p := ⟨gb196, 1, none⟩) (Kd.R_far (p := ⟨gb196, 0, none⟩) (Kd.R_types HO190.out BK196.out (by decide)) (fun _ hk => hk.2) (.slice Ao20 t188.length co20)) (fun _ hk => hk.2) (.slice Ao22 t191.length co22)) (fun _ h_ => h_.1))))) (below_size (by repeat (first | (with_reducible first | exact HB.out | apply below_alloc | apply pw_below_drewN | apply below_drew1 | refine below_set ?_ GE196.out) | exact HB.out)))); have n3_ := Aside0.mk (Kd.R_lower (Kd.R_new' ho1 (Kd.R_lt (by (with_reducible repeat (first | apply Kd.R_alloc | apply Kd.R_drewN | apply Kd.R_drew)); exact (Kd.R_mono (Kd.R_far (p := ⟨gb196, 1, none⟩) (Kd.R_far (p := ⟨gb196, 0, none⟩) (Kd.R_types HO193.out BK196.out (by decide)) (fun _ hk => hk.2) (.slice Ao20 t188.length co20)) (fun _ hk => hk.2) (.slice Ao22 t191.length co22)) (fun _ h_ => h_.1))))) (below_size (by repeat (first | (with_reducible first | exact HB.out | apply below_alloc | apply pw_below_drewN | apply below_drew1 | refine below_set ?_ GE196.out) | exact HB.out)))); have n4_ := Aside0.mk (blk_below (g := gb196) (o := .cells #[.slice Ao20 t188.length co20, .slice Ao22 t191.length co22] 26 (0, 0)) (by (with_reducible repeat (first | refine blk_drewN ?_ _ | refine blk_drew ?_ | refine blk_alloc ?_ _)); refine blk_put (cs := #[.slice Ao20 t188.length co20, .slice none 0 0]) ?_ 1 _ rfl; (with_reducible repeat (first | refine blk_drewN ?_ _ | refine blk_drew ?_ | refine blk_alloc ?_ _)); refine blk_put (cs := #[.slice none 0 0, .slice none 0 0]) ?_ 0 _ rfl; (with_reducible repeat (first | refine blk_drewN ?_ _ | refine blk_drew ?_ | refine blk_alloc ?_ _)); exact BK196.out) hb); have n5_ := Aside0.mk (below_step (by repeat (first | (with_reducible first | exact HB.out | apply below_alloc | apply pw_below_drewN | apply below_drew1 | refine below_set ?_ GE196.out) | exact HB.out)) hb); clear HO190; clear HO193; clear BK196; clear HB; have HO190 := n0_; have HO193 := n1_; have HO199 := n2_; have HO202 := n3_; have BK196 := n4_; have HB := n5_; clear n0_ n1_ n2_ n3_ n4_ n5_; (try clear hb); (try clear hb2); (try clear hk); (try clear hi); (try clear ho0); (try clear ho1)) | ((with_reducible refine gate_dst (N := 11) rfl ?_); (try (refine gate_guard (by rfl) ?_; dsimp only)); refine box_event ?hg (N := 11) ?hd (cs := #[.slice none 0 0, .slice none 0 0]) (t := 26) ?hr ?_; (case hd => rfl); (case hg => rfl); (case hr => first | (go_simp; done) | (go_simp; rfl)); intro gb205 hg w24 hbox hb; have n0_ := Aside0.mk (Kd.R_below (by (with_reducible repeat (first | apply Kd.R_alloc | apply Kd.R_drewN | apply Kd.R_drew)); exact HO190.out) hb); have n1_ := Aside0.mk (Kd.R_below (by (with_reducible repeat (first | apply Kd.R_alloc | apply Kd.R_drewN | apply Kd.R_drew)); exact HO193.out) hb); have n2_ := Aside0.mk (Kd.R_below (by (with_reducible repeat (first | apply Kd.R_alloc | apply Kd.R_drewN | apply Kd.R_drew)); exact HO199.out) hb); have n3_ := Aside0.mk (Kd.R_below (by (with_reducible repeat (first | apply Kd.R_alloc | apply Kd.R_drewN | apply Kd.R_drew)); exact HO202.out) hb); have n4_ := Aside0.mk (blk_below (g := gb196) (o := .cells #[.slice Ao20 t188.length co20, .slice Ao22 t191.length co22] 26 (0, 0)) (by (with_reducible repeat (first | refine blk_drewN ?_ _ | refine blk_drew ?_ | refine blk_alloc ?_ _)); exact BK196.out) hb); have n5_ := Aside0.mk (below_step (by repeat (first | (with_reducible first | exact HB.out | apply below_alloc | apply pw_below_drewN | apply below_drew1 | refine below_set ?_ GE196.out) | exact HB.out)) hb); have n6_ := Aside0.mk (hbox); have n7_ := Aside0.mk ((by rw [hg]; exact (below_size (by repeat (first | (with_reducible first | exact HB.out | apply below_alloc | apply pw_below_drewN | apply below_drew1 | refine below_set ?_ GE196.out) | exact HB.out))) : w.heap.size ≤ gb205)); have n8_ := Aside0.mk ((by rw [hg]; exact (below_size (by repeat (first | (with_reducible first | exact HB.out | apply below_alloc | apply pw_below_drewN | apply below_drew1 | refine below_set ?_ GE196.out) | exact HB.out))) : w.heap.size ≤ gb205)); have n9_ := Aside0.mk ((by rw [hg]; exact Nat.ne_of_lt (blk_lt (g := gb196) (o := .cells #[.slice Ao20 t188.length co20, .slice Ao22 t191.length co22] 26 (0, 0)) (by (with_reducible repeat (first | refine blk_drewN ?_ _ | refine blk_drew ?_ | refine blk_alloc ?_ _)); exact BK196.out)) : gb196 ≠ gb205)); have n10_ := Aside0.mk ((by rw [hg]; exact Nat.ne_of_gt (blk_lt (g := gb196) (o := .cells #[.slice Ao20 t188.length co20, .slice Ao22 t191.length co22] 26 (0, 0)) (by (with_reducible repeat (first | refine blk_drewN ?_ _ | refine blk_drew ?_ | refine blk_alloc ?_ _)); exact BK196.out)) : gb205 ≠ gb196)); clear HO190; clear HO193; clear HO199; clear HO202; clear BK196; clear HB; have HO190 := n0_; have HO193 := n1_; have HO199 := n2_; have HO202 := n3_; have BK196 := n4_; have HB := n5_; have BK205 := n6_; have GW205 := n7_; have GE205 := n8_; have NB196_205 := n9_; have NB205_196 := n10_; clear n0_ n1_ n2_ n3_ n4_ n5_ n6_ n7_ n8_ n9_ n10_; clear hb hbox hg; obtain ⟨Ao25, co25, eo25⟩ := Kd.R_slice HO199.out; subst eo25; have hnb26 := NB205_196.out; have hnc26 := NB196_205.out; have hcz27_0 : w24.cell? ⟨gb205, 0, none⟩ = some (.slice none 0 0) := (blk_cell BK205.out 0).trans rfl; have hcz27_1 : w24.cell? ⟨gb205, 1, none⟩ = some (.slice none 0 0) := (blk_cell BK205.out 1).trans rfl; have hfz27_0 := blk_frozen BK205.out 0; have hfz27_1 := blk_frozen BK205.out 1; obtain ⟨Ao28, co28, eo28⟩ := Kd.R_slice HO202.out; subst eo28; have hcz29_0 : w24.cell? ⟨gb196, 0, none⟩ = some (.slice Ao20 t188.length co20) := (blk_cell BK196.out 0).trans rfl; have hcz29_1 : w24.cell? ⟨gb196, 1, none⟩ = some (.slice Ao22 t191.length co22) := (blk_cell BK196.out 1).trans rfl; have hfz29_0 := blk_frozen BK196.out 0; have hfz29_1 := blk_frozen BK196.out 1) | (go_at_call 15; (with_reducible refine (proto_Same.calls _ _ t188 _ _ t191 _ _ t197 _ _ t200 true _ ?side1 ?side2 ?side3 ?side4 ?side5 ?side6 ?side7 ?side8 A16.out).mono ?_); (case side1 => refine (Kd.R_reads' (e := 34) (base := w.heap.size) (ok := fun k_ => (True ∧ some k_ ≠ (.slice Ao25 t197.length co25 : Value).ownBlock)) (n := t188.length) (c := co20) ?_).2.2; exact (by (with_reducible repeat (first | apply Kd.R_alloc | apply Kd.R_drewN | apply Kd.R_drew)); exact (Kd.R_mono (Kd.R_far (p := ⟨gb205, 1, none⟩) (Kd.R_far (p := ⟨gb205, 0, none⟩) (Kd.R_types HO190.out BK205.out (by decide)) (fun _ hk => hk.2) (.slice Ao25 t197.length co25)) (fun _ hk => hk.2) (.slice Ao28 t200.length co28)) (fun _ h_ => h_.1)))); (case side2 => exact (Kd.R_reads' HO190.out).2.1); (case side3 => refine (Kd.R_reads' (e := 68) (base := w.heap.size) (ok := fun k_ => (True ∧ some k_ ≠ (.slice Ao28 t200.length co28 : Value).ownBlock)) (n := t191.length) (c := co22) ?_).2.2; exact (by (with_reducible repeat (first | apply Kd.R_alloc | apply Kd.R_drewN | apply Kd.R_drew)); exact (Kd.R_mono (Kd.R_far (p := ⟨gb205, 1, none⟩) (Kd.R_far (p := ⟨gb205, 0, none⟩) (Kd.R_types HO193.out BK205.out (by decide)) (fun _ hk => hk.2) (.slice Ao25 t197.length co25)) (fun _ hk => hk.2) (.slice Ao28 t200.length co28)) (fun _ h_ => h_.1)))); (case side4 => exact (Kd.R_reads' HO193.out).2.1); (case side5 => refine (Kd.R_reads' (e := 34) (base := w.heap.size) (ok := fun k_ => (True ∧ some k_ ≠ (.slice Ao20 t188.length co20 : Value).ownBlock)) (n := t197.length) (c := co25) ?_).2.2; exact (by (with_reducible repeat (first | apply Kd.R_alloc | apply Kd.R_drewN | apply Kd.R_drew)); exact (Kd.R_mono (Kd.R_far (p := ⟨gb205, 1, none⟩) (Kd.R_far (p := ⟨gb205, 0, none⟩) (Kd.R_types HO199.out BK205.out (by decide)) (fun _ hk => hk.2) (.slice Ao25 t197.length co25)) (fun _ hk => hk.2) (.slice Ao28 t200.length co28)) (fun _ h_ => h_.1)))); (case side6 => exact (Kd.R_reads' HO199.out).2.1); (case side7 => refine (Kd.R_reads' (e := 68) (base := w.heap.size) (ok := fun k_ => (True ∧ some k_ ≠ (.slice Ao22 t191.length co22 : Value).ownBlock)) (n := t200.length) (c := co28) ?_).2.2; exact (by (with_reducible repeat (first | apply Kd.R_alloc | apply Kd.R_drewN | apply Kd.R_drew)); exact (Kd.R_mono (Kd.R_far (p := ⟨gb205, 1, none⟩) (Kd.R_far (p := ⟨gb205, 0, none⟩) (Kd.R_types HO202.out BK205.out (by decide)) (fun _ hk => hk.2) (.slice Ao25 t197.length co25)) (fun _ hk => hk.2) (.slice Ao28 t200.length co28)) (fun _ h_ => h_.1)))); (case side8 => exact (Kd.R_reads' HO202.out).2.1); rintro e w30 ⟨rfl, hb⟩; have n0_ := Aside0.mk (Kd.R_below (by (with_reducible repeat (first | apply Kd.R_alloc | apply Kd.R_drewN | apply Kd.R_drew)); exact (Kd.R_mono (Kd.R_far (p := ⟨gb205, 1, none⟩) (Kd.R_far (p := ⟨gb205, 0, none⟩) (Kd.R_types HO190.out BK205.out (by decide)) (fun _ hk => hk.2) (.slice Ao25 t197.length co25)) (fun _ hk => hk.2) (.slice Ao28 t200.length co28)) (fun _ h_ => h_.1))) hb); have n1_ := Aside0.mk (Kd.R_below (by (with_reducible repeat (first | apply Kd.R_alloc | apply Kd.R_drewN | apply Kd.R_drew)); exact (Kd.R_mono (Kd.R_far (p := ⟨gb205, 1, none⟩) (Kd.R_far (p := ⟨gb205, 0, none⟩) (Kd.R_types HO193.out BK205.out (by decide)) (fun _ hk => hk.2) (.slice Ao25 t197.length co25)) (fun _ hk => hk.2) (.slice Ao28 t200.length co28)) (fun _ h_ => h_.1))) hb); have n2_ := Aside0.mk (Kd.R_below (by (with_reducible repeat (first | apply Kd.R_alloc | apply Kd.R_drewN | apply Kd.R_drew)); exact (Kd.R_mono (Kd.R_far (p := ⟨gb205, 1, none⟩) (Kd.R_far (p := ⟨gb205, 0, none⟩) (Kd.R_types HO199.out BK205.out (by decide)) (fun _ hk => hk.2) (.slice Ao25 t197.length co25)) (fun _ hk => hk.2) (.slice Ao28 t200.length co28)) (fun _ h_ => h_.1))) hb); have n3_ := Aside0.mk (Kd.R_below (by (with_reducible repeat (first | apply Kd.R_alloc | apply Kd.R_drewN | apply Kd.R_drew)); exact (Kd.R_mono (Kd.R_far (p := ⟨gb205, 1, none⟩) (Kd.R_far (p := ⟨gb205, 0, none⟩) (Kd.R_types HO202.out BK205.out (by decide)) (fun _ hk => hk.2) (.slice Ao25 t197.length co25)) (fun _ hk => hk.2) (.slice Ao28 t200.length co28)) (fun _ h_ => h_.1))) hb); have n4_ := Aside0.mk (blk_below (g := gb196) (o := .cells #[.slice Ao20 t188.length co20, .slice Ao22 t191.length co22] 26 (0, 0)) (by (with_reducible repeat (first | refine blk_drewN ?_ _ | refine blk_drew ?_ | refine blk_alloc ?_ _)); refine blk_far ?_ NB196_205.out _; (with_reducible repeat (first | refine blk_drewN ?_ _ | refine blk_drew ?_ | refine blk_alloc ?_ _)); refine blk_far ?_ NB196_205.out _; (with_reducible repeat (first | refine blk_drewN ?_ _ | refine blk_drew ?_ | refine blk_alloc ?_ _)); exact BK196.out) hb); have n5_ := Aside0.mk (blk_below (g := gb205) (o := .cells #[.slice Ao25 t197.length co25, .slice Ao28 t200.length co28] 26 (0, 0)) (by (with_reducible repeat (first | refine blk_drewN ?_ _ | refine blk_drew ?_ | refine blk_alloc ?_ _)); refine blk_put (cs := #[.slice Ao25 t197.length co25, .slice none 0 0]) ?_ 1 _ rfl; (with_reducible repeat (first | refine blk_drewN ?_ _ | refine blk_drew ?_ | refine blk_alloc ?_ _)); refine blk_put (cs := #[.slice none 0 0, .slice none 0 0]) ?_ 0 _ rfl; (with_reducible repeat (first | refine blk_drewN ?_ _ | refine blk_drew ?_ | refine blk_alloc ?_ _)); exact BK205.out) hb); have n6_ := Aside0.mk (below_step (by repeat (first | (with_reducible first | exact HB.out | apply below_alloc | apply pw_below_drewN | apply below_drew1 | refine below_set ?_ GE196.out | refine below_set ?_ GE205.out) | exact HB.out)) hb); clear HO190; clear HO193; clear HO199; clear HO202; clear BK196; clear BK205; clear HB; have HO190 := n0_; have HO193 := n1_; have HO199 := n2_; have HO202 := n3_; have BK196 := n4_; have BK205 := n5_; have HB := n6_; clear n0_ n1_ n2_ n3_ n4_ n5_ n6_; (try clear hb); (try clear hb2); (try clear hk); (try clear hi)))
                    go_ret
                    exact ⟨by first | rfl | (rw [hv_]; done) | (simp [hv_]; done) | (simp [← hv_]; done) | (simp [] <;> rfl) | (simp [*] <;> rfl), by repeat (first | (with_reducible first | exact HB.out | apply below_alloc | apply pw_below_drewN | apply below_drew1 | refine below_set ?_ GE196.out | refine below_set ?_ GE205.out) | exact HB.out)⟩
                  · replace c17 := Bool.eq_false_iff.mpr c17
                    subst c17
                    have H1 : (some false) = some true := by first | (rw [if_neg (show ¬ (false = true) by decide)] at H; exact H) | rfl
                    clear H
                    have H := H1
                    clear H1
                    exact absurd (Option.some.inj H) Bool.false_ne_true
                · rw [if_neg c15] at H
                  have c15b0 : (t195 == t204) = false := beq_eq_false_iff_ne.mpr c15
                  have c15b1 : (t195 != t204) = true := bne_iff_ne.mpr c15
                  exact absurd (Option.some.inj H) Bool.false_ne_true
              · rw [if_neg c13] at H
                exact absurd H (by simp)
def trufflelaw07_ProtoBlanks.Pure : Prop := ∀ (a0 : ByteArray) (a1 : Int), a0.size ≤ 140737488351232 → (Lit.int .i64 a1).wf = true → ∃ k, trufflelaw07_ProtoBlanks.f k a0 a1 = some true
theorem trufflelaw07_ProtoBlanks.walk (P : trufflelaw07_ProtoBlanks.Pure) (a0 : ByteArray) (a1 : Int) (w : World) (w0 : a0.size ≤ 140737488351232) (w1 : (Lit.int .i64 a1).wf = true) (hG : GInv w) :
    Calls Tryz.prog 4 #[.string a0, .int .i64 a1] w fun e w' => e = .returned (.bool true) ∧ Below w.heap.size w w' := by
  obtain ⟨k, h⟩ := P a0 a1 w0 w1
  refine (trufflelaw07_ProtoBlanks.calls k a0 a1 w hG h).mono ?_
  rintro e w' ⟨rfl, hd⟩
  exact ⟨rfl, hd⟩
end Go.Proofs.YtddpjjhekhompaaGreatDoor.P
namespace Go.Proofs.YtddpjjhekhompaaGreatDoor.P
open Go.RowKit Go.Proofs.YtddpjjhekhompaaGreatDoorW.PrintWords Go.Proofs.YtddpjjhekhompaaGreatDoorW.PrintLast Go.Proofs.YtddpjjhekhompaaGreatDoorW.PrintMore
set_option linter.unusedVariables false
set_option linter.unusedSimpArgs false
def shS (d : Nat) (s : PS) : PS := ⟨s.r.map (shT d), s.b⟩
def shF (d : Nat) (f : FieldS) : FieldS := ⟨f.f0, f.f1, f.f2, f.f3, f.f4, f.f5, f.f6 + d⟩
def shM (d : Nat) (m : MsgS) : MsgS := ⟨m.f0, m.f1.map (shF d), m.f2, m.f3, m.f4 + d⟩
def shV (d : Nat) (v : ValS) : ValS := ⟨v.f0, v.f1, v.f2 + d⟩
def shEn (d : Nat) (m : EnumS) : EnumS := ⟨m.f0, m.f1.map (shV d), m.f2 + d⟩
def shA (d : Nat) (m : MAcc) : MAcc := (m.1.map (shF d), m.2.1, m.2.2)
def shFi (d : Nat) (f : FileS) : FileS := (f.1.map (shM d), f.2.map (shEn d))
theorem shS_b (d : Nat) (s : PS) : (shS d s).b = s.b := rfl
theorem pAt_sh (d : Nat) (e : Int) (s : PS) : pAt (e + d) (shS d s) = pAt e s + d := by
  obtain ⟨r, b⟩ := s
  cases r <;> rfl
theorem pIs_sh (d j : Nat) (k : Int) (x : List UInt8) (s : PS) : pIs j k x (shS d s) = pIs j k x s := by
  obtain ⟨r, b⟩ := s
  unfold pIs shS
  cases b with
  | true => rfl
  | false =>
    rw [if_neg Bool.false_ne_true, if_neg Bool.false_ne_true, List.getElem?_map]
    cases r[j]? <;> rfl
theorem pTake_sh (d : Nat) (k : Int) (s : PS) : (pTake k (shS d s)).2 = shS d (pTake k s).2 ∧ (pTake k (shS d s)).1.f1 = (pTake k s).1.f1 ∧ (pTake k (shS d s)).1.f2 = (pTake k s).1.f2 := by
  obtain ⟨r, b⟩ := s
  cases b with
  | true => exact ⟨rfl, rfl, rfl⟩
  | false => cases r with
    | nil => exact ⟨rfl, rfl, rfl⟩
    | cons t r =>
      show (pTake k ⟨shT d t :: r.map (shT d), false⟩).2 = _ ∧ (pTake k ⟨shT d t :: r.map (shT d), false⟩).1.f1 = _ ∧ (pTake k ⟨shT d t :: r.map (shT d), false⟩).1.f2 = _
      rw [pTake_cons, pTake_cons]
      show (if t.f0 = k then (shT d t, (⟨r.map (shT d), false⟩ : PS)) else (zT, ⟨shT d t :: r.map (shT d), true⟩)).2 = _ ∧ (if t.f0 = k then (shT d t, (⟨r.map (shT d), false⟩ : PS)) else (zT, ⟨shT d t :: r.map (shT d), true⟩)).1.f1 = _ ∧ (if t.f0 = k then (shT d t, (⟨r.map (shT d), false⟩ : PS)) else (zT, ⟨shT d t :: r.map (shT d), true⟩)).1.f2 = _
      by_cases h : t.f0 = k
      · rw [if_pos h, if_pos h]; exact ⟨rfl, rfl, rfl⟩
      · rw [if_neg h, if_neg h]; exact ⟨rfl, rfl, rfl⟩
theorem pSign_sh (d : Nat) (x : List UInt8) (s : PS) : pSign x (shS d s) = ((pSign x s).1, shS d (pSign x s).2) := by
  unfold pSign
  rw [pIs_sh]
  split
  · show (true, (⟨(s.r.map (shT d)).tail, s.b⟩ : PS)) = _
    rw [← List.map_tail]
    rfl
  · rfl
theorem pMust_sh (d : Nat) (x : List UInt8) (s : PS) : pMust x (shS d s) = shS d (pMust x s) := by
  unfold pMust
  rw [pIs_sh]
  split
  · show (⟨(s.r.map (shT d)).tail, s.b⟩ : PS) = _
    rw [← List.map_tail]
    rfl
  · rfl
theorem pNamed_sh (d : Nat) (s : PS) : pNamed (shS d s) = ((pNamed s).1, shS d (pNamed s).2) := by
  unfold pNamed
  rw [(pTake_sh d 0 s).1, (pTake_sh d 0 s).2.1, pMust_sh, (pTake_sh d 1 _).1, (pTake_sh d 1 _).2.2, pMust_sh]
theorem pField_sh (d : Nat) (e one : Int) (s : PS) : pField (e + d) one (shS d s) = (shF d (pField e one s).1, shS d (pField e one s).2) := by
  unfold pField
  rw [(pTake_sh d 0 s).1, (pTake_sh d 0 s).2.1, pNamed_sh, pAt_sh]
  rfl
def Sh {α : Type} (d : Nat) (g : α → α) (P : α → Int → PS → α × PS) : Prop := ∀ a e s, P (g a) (e + d) (shS d s) = (g (P a e s).1, shS d (P a e s).2)
theorem pLoop_sh {α : Type} (d : Nat) (g : α → α) (x : List UInt8) (P : α → Int → PS → α × PS) (h : Sh d g P) : ∀ k a e s, pLoop x P k (g a) (e + d) (shS d s) = (g (pLoop x P k a e s).1, shS d (pLoop x P k a e s).2) := by
  intro k
  induction k with
  | zero => intro a e s; rfl
  | succ k ih =>
    intro a e s
    rw [pLoop, pLoop, pSign_sh, shS_b]
    by_cases hb : s.b = true
    · rw [if_pos hb, if_pos hb]
    · rw [if_neg hb, if_neg hb]
      by_cases hs : (pSign x s).1 = true
      · rw [if_pos hs, if_pos hs]
      · rw [if_neg hs, if_neg hs, h a e s]
        exact ih _ _ _
theorem mu_sh (d : Nat) (s : PS) : mu (shS d s) = mu s := by
  unfold mu shS
  simp only [List.length_map]
theorem pLoopW_sh {α : Type} (d : Nat) (g : α → α) (x : List UInt8) (P : α → Int → PS → α × PS) (h : Sh d g P) (a : α) (e : Int) (s : PS) : pLoopW x P (g a) (e + d) (shS d s) = (g (pLoopW x P a e s).1, shS d (pLoopW x P a e s).2) := by
  unfold pLoopW
  rw [mu_sh]
  exact pLoop_sh d g x P h _ a e s
theorem pOne_sh (d : Nat) (one : Int) : Sh d (List.map (shF d)) (pOne one) := by
  intro a e s
  unfold pOne
  rw [pField_sh, List.map_append]
  rfl
theorem pNums_sh (d : Nat) : ∀ k a s, pNums k a (shS d s) = ((pNums k a s).1, shS d (pNums k a s).2) := by
  intro k
  induction k with
  | zero => intro a s; rfl
  | succ k ih =>
    intro a s
    rw [pNums, pNums, (pTake_sh d 1 s).1, (pTake_sh d 1 s).2.2, pSign_sh, shS_b]
    by_cases hb : (pTake 1 s).2.b = true
    · rw [if_pos hb, if_pos hb]
    · rw [if_neg hb, if_neg hb]
      by_cases hs : (pSign [44] (pTake 1 s).2).1 = true
      · rw [if_pos hs, if_pos hs, ih]
      · rw [if_neg hs, if_neg hs]
theorem pMapT_sh (d : Nat) (s : PS) : pMapT (shS d s) = ((pMapT s).1, shS d (pMapT s).2) := by
  unfold pMapT
  rw [(pTake_sh d 0 s).1, pMust_sh, (pTake_sh d 0 _).1, (pTake_sh d 0 _).2.1, pMust_sh, (pTake_sh d 0 _).1, (pTake_sh d 0 _).2.1, pMust_sh]
theorem itemK_sh (d : Nat) (s : PS) : itemK (shS d s) = itemK s := by
  unfold itemK
  rw [pIs_sh, pIs_sh, pIs_sh, pIs_sh, pIs_sh]
theorem pRep_sh (d : Nat) : Sh d (shA d) pRep := by
  intro m e s
  unfold pRep
  rw [(pTake_sh d 0 s).1, pField_sh, pAt_sh]
  simp only [shA, List.map_append]
  rfl
theorem pPlain_sh (d : Nat) : Sh d (shA d) pPlain := by
  intro m e s
  unfold pPlain
  rw [pField_sh]
  simp only [shA, List.map_append]
  rfl
theorem pMap_sh (d : Nat) : Sh d (shA d) pMap := by
  intro m e s
  unfold pMap
  rw [pMapT_sh, pNamed_sh, pAt_sh]
  simp only [shA, List.map_append]
  rfl
theorem pOneof_sh (d : Nat) : Sh d (shA d) pOneof := by
  intro m e s
  unfold pOneof
  rw [(pTake_sh d 0 s).1, (pTake_sh d 0 _).1, (pTake_sh d 0 _).2.1, pMust_sh]
  have h := pLoopW_sh d (List.map (shF d)) [125] (pOne ((m.2.1.length : Int) + 1)) (pOne_sh d _) m.1 e (pMust [123] (pTake 0 (pTake 0 s).2).2)
  simp only [shA] at h ⊢
  rw [h]
theorem pRes_sh (d : Nat) : Sh d (shA d) pRes := by
  intro m e s
  unfold pRes
  rw [(pTake_sh d 0 s).1]
  have h := pNums_sh d ((pTake 0 s).2.r.length + 1) m.2.2 (pTake 0 s).2
  have hl : (shS d (pTake 0 s).2).r.length = (pTake 0 s).2.r.length := List.length_map _
  simp only [shA] at h ⊢
  rw [hl, h, pMust_sh]
theorem pItem_sh (d : Nat) : Sh d (shA d) pItem := by
  intro m e s
  unfold pItem
  rw [itemK_sh, pRep_sh d m e s, pOneof_sh d m e s, pRes_sh d m e s, pMap_sh d m e s, pPlain_sh d m e s]
  repeat' split
  all_goals rfl
theorem pMsg_sh (d : Nat) (e : Int) (s : PS) : pMsg (e + d) (shS d s) = (shM d (pMsg e s).1, shS d (pMsg e s).2) := by
  unfold pMsg
  rw [(pTake_sh d 0 s).1, (pTake_sh d 0 _).1, (pTake_sh d 0 _).2.1, pMust_sh, pAt_sh]
  have h := pLoopW_sh d (shA d) [125] pItem (pItem_sh d) ([], [], []) e (pMust [123] (pTake 0 (pTake 0 s).2).2)
  simp only [shA, List.map_nil] at h ⊢
  rw [h]
  rfl
theorem pVal_sh (d : Nat) : Sh d (List.map (shV d)) pVal := by
  intro a e s
  unfold pVal
  rw [pNamed_sh, pAt_sh, List.map_append]
  rfl
theorem pEnum_sh (d : Nat) (e : Int) (s : PS) : pEnum (e + d) (shS d s) = (shEn d (pEnum e s).1, shS d (pEnum e s).2) := by
  unfold pEnum
  rw [(pTake_sh d 0 s).1, (pTake_sh d 0 _).1, (pTake_sh d 0 _).2.1, pMust_sh, pAt_sh]
  have h := pLoopW_sh d (List.map (shV d)) [125] pVal (pVal_sh d) [] e (pMust [123] (pTake 0 (pTake 0 s).2).2)
  simp only [List.map_nil] at h ⊢
  rw [h]
  rfl
theorem pTop1_sh (d : Nat) : Sh d (shFi d) pTop1 := by
  intro f e s
  unfold pTop1
  rw [pIs_sh, pIs_sh, pMsg_sh, pEnum_sh]
  by_cases h1 : pIs 0 0 wMsg s = true
  · rw [if_pos h1, if_pos h1]
    simp only [shFi, List.map_append]
    rfl
  · rw [if_neg h1, if_neg h1]
    by_cases h2 : pIs 0 0 wEnum s = true
    · rw [if_pos h2, if_pos h2]
      simp only [shFi, List.map_append]
      rfl
    · rw [if_neg h2, if_neg h2]
      rfl
theorem pTop_sh (d : Nat) : ∀ k f e s, pTop k (shFi d f) (e + d) (shS d s) = (shFi d (pTop k f e s).1, shS d (pTop k f e s).2) := by
  intro k
  induction k with
  | zero => intro f e s; rfl
  | succ k ih =>
    intro f e s
    rw [pTop, pTop, shS_b, pTop1_sh d f e s]
    have hn : (shS d s).r = [] ↔ s.r = [] := List.map_eq_nil_iff
    by_cases hb : s.b = true
    · rw [if_pos hb, if_pos hb]
    · rw [if_neg hb, if_neg hb]
      by_cases hr : s.r = []
      · rw [if_pos hr, if_pos (hn.2 hr)]
      · rw [if_neg hr, if_neg (fun h => hr (hn.1 h))]
        exact ih _ _ _
theorem pAll_sh (d : Nat) (e : Int) (l : List TokS) : pAll (e + d) (l.map (shT d)) = (shFi d (pAll e l).1, shS d (pAll e l).2) := by
  unfold pAll
  rw [List.length_map]
  exact pTop_sh d _ ([], []) e ⟨l, false⟩
end Go.Proofs.YtddpjjhekhompaaGreatDoor.P
namespace Go.Proofs.YtddpjjhekhompaaGreatDoor.P
open Go.RowKit Go.Proofs.YtddpjjhekhompaaGreatDoorW.PrintWords Go.Proofs.YtddpjjhekhompaaGreatDoorW.PrintLast Go.Proofs.YtddpjjhekhompaaGreatDoorW.PrintMore
set_option linter.unusedVariables false
set_option linter.unusedSimpArgs false
theorem run_take (p : UInt8 → Bool) (c : UInt8) (r : List UInt8) : (c :: r).take (runN p (c :: r)) = c :: r.takeWhile p := by
  simp only [runN]
  rw [Nat.add_comm, List.take_succ_cons]
  congr 1
  exact (List.prefix_iff_eq_take.1 (List.takeWhile_prefix p)).symm
theorem takeWhile_twice (p : UInt8 → Bool) (l : List UInt8) : (l.takeWhile p).takeWhile p = l.takeWhile p := by
  induction l with
  | nil => rfl
  | cons x r ih =>
    by_cases hx : p x = true
    · simp [List.takeWhile_cons, hx, ih]
    · simp [List.takeWhile_cons, hx]
def selfT (kd : Int) (t : List UInt8) (v : Int) : Prop := (kd = 0 ∨ kd = 1) ∧ lex1 t = some (kd, t, v, t.length)
theorem runN_self (p : UInt8 → Bool) (c : UInt8) (r : List UInt8) : runN p (c :: r.takeWhile p) = (c :: r.takeWhile p).length := by
  simp only [runN, takeWhile_twice, List.length_cons]
  omega
theorem lex1_tok (l : List UInt8) (kd : Int) (t : List UInt8) (v : Int) (n : Nat) (h : lex1 l = some (kd, t, v, n)) :
    (selfT kd t v ∧ t.length ≤ l.length) ∨ (kd = 2 ∧ v = 0) ∨ (kd = 3 ∧ v = 0 ∧ t.length = 1) := by
  cases l with
  | nil => cases h
  | cons c r =>
    rw [lex1_cons] at h
    split at h
    · cases h
    · rename_i h4
      split at h
      · rename_i h0
        simp only [Option.some.injEq, Prod.mk.injEq] at h
        obtain ⟨rfl, rfl, rfl, rfl⟩ := h
        refine .inl ⟨⟨.inl rfl, ?_⟩, by rw [List.length_take]; omega⟩
        rw [run_take, lex1_cons, if_neg h4, if_pos h0, runN_self, List.take_length]
      · rename_i h0
        split at h
        · rename_i h1
          split at h
          · rename_i hok
            simp only [Option.some.injEq, Prod.mk.injEq] at h
            obtain ⟨rfl, rfl, rfl, rfl⟩ := h
            refine .inl ⟨⟨.inr rfl, ?_⟩, by rw [List.length_take]; omega⟩
            rw [run_take] at hok ⊢
            rw [lex1_cons, if_neg h4, if_neg h0, if_pos h1, runN_self, List.take_length, if_pos hok]
          · cases h
        · rename_i h1
          split at h
          · obtain ⟨⟨t', n'⟩, h3, h5⟩ := Option.map_eq_some_iff.mp h
            simp only [Prod.mk.injEq] at h5
            obtain ⟨rfl, rfl, rfl, rfl⟩ := h5
            exact .inr (.inl ⟨rfl, rfl⟩)
          · simp only [Option.some.injEq, Prod.mk.injEq] at h
            obtain ⟨rfl, rfl, rfl, rfl⟩ := h
            exact .inr (.inr ⟨rfl, rfl, rfl⟩)
theorem scan_blank (m p : Nat) (c : UInt8) (a : List UInt8) (hc : blankB c = true) : scan m p (c :: a) = scan m (p + 1) a := by
  unfold scan
  rw [skipN_f, if_pos hc, Nat.add_comm 1, List.drop_succ_cons, show p + (skipN false a + 1) = p + 1 + skipN false a from by omega]
theorem scan_nil (m p : Nat) : scan m p [] = .inl [] := rfl
theorem scan_cases (m p : Nat) (a : List UInt8) (ts : List TokS) (h : scan m p a = .inl ts) : ts = [] ∨ ∃ (k : Nat) (kd : Int) (t : List UInt8) (v : Int) (n : Nat) (us : List TokS),
    lex1 (a.drop k) = some (kd, t, v, n) ∧ 1 ≤ n ∧ k + n ≤ a.length ∧ 0 < m ∧ scan (m - 1) (p + k + n) (a.drop (k + n)) = .inl us ∧ ts = ⟨kd, ⟨t.toArray⟩, v, ((p + k : Nat) : Int)⟩ :: us := by
  unfold scan at h
  have hk := skipN_le false a
  generalize skipN false a = k at h hk
  cases hl : a.drop k with
  | nil => rw [hl, lx_nil] at h; simp only [Sum.inl.injEq] at h; exact .inl h.symm
  | cons c r =>
    have hz := congrArg List.length hl
    rw [List.length_drop, List.length_cons] at hz
    rw [hl, lx_cons] at h
    cases hx : lex1 (c :: r) with
    | none => rw [hx] at h; cases h
    | some y =>
      obtain ⟨kd, t, v, n⟩ := y
      obtain ⟨n1, n2⟩ := lex1_le _ _ _ _ _ hx
      rw [List.length_cons] at n2
      rw [hx] at h
      simp only at h
      split at h
      · cases h
      · rename_i hm
        cases hs : scan (m - 1) (p + k + n) ((c :: r).drop n) with
        | inr e => rw [hs] at h; cases h
        | inl us =>
          rw [hs] at h
          simp only [preE, Sum.inl.injEq] at h
          refine .inr ⟨k, kd, t, v, n, us, by rw [hl]; exact hx, n1, by omega, by omega, ?_, ?_⟩
          · rw [← List.drop_drop, hl]; exact hs
          · rw [← h]; rfl
def tokOk (t : TokS) : Prop := selfT t.f0 (bl t.f1) t.f2 ∨ (t.f0 = 2 ∧ t.f2 = 0) ∨ (t.f0 = 3 ∧ t.f2 = 0 ∧ (bl t.f1).length = 1)
def incT : Int → List TokS → Prop
  | _, [] => True
  | b, t :: ts => b ≤ t.f3 ∧ incT (t.f3 + 1) ts
theorem incT_mono : ∀ (ts : List TokS) (b c : Int), c ≤ b → incT b ts → incT c ts
  | [], _, _, _, _ => trivial
  | _ :: _, _, _, h, ⟨h1, h2⟩ => ⟨by omega, h2⟩
theorem scan_facts : ∀ (d m p : Nat) (a : List UInt8) (ts : List TokS), a.length ≤ d → scan m p a = .inl ts →
    (∀ t ∈ ts, tokOk t ∧ (selfT t.f0 (bl t.f1) t.f2 → t.f1.size ≤ a.length) ∧ t.f3 < p + a.length) ∧ incT p ts := by
  intro d
  induction d with
  | zero =>
    intro m p a ts hd h
    obtain rfl : a = [] := List.length_eq_zero_iff.mp (by omega)
    rw [scan_nil] at h
    injection h with h
    subst h
    exact ⟨fun t ht => (by cases ht), trivial⟩
  | succ d ih =>
    intro m p a ts hd h
    rcases scan_cases m p a ts h with rfl | ⟨k, kd, t, v, n, us, hx, hn, hk, hm, hs, rfl⟩
    · exact ⟨fun t ht => (by cases ht), trivial⟩
    · obtain ⟨g1, g2⟩ := ih _ _ _ _ (by rw [List.length_drop]; omega) hs
      refine ⟨fun u hu => ?_, ?_⟩
      · rcases List.mem_cons.1 hu with rfl | hu
        · have hl := lex1_tok _ _ _ _ _ hx
          refine ⟨Or.elim hl (fun hl => .inl hl.1) (fun hl => .inr hl), fun hself => ?_, by show ((p + k : Nat) : Int) < _; omega⟩
          · show (⟨t.toArray⟩ : ByteArray).size ≤ a.length
            rw [← bl_length]
            show t.length ≤ a.length
            have h9 : kd = 0 ∨ kd = 1 := hself.1
            rcases hl with hl | hl | hl
            · have := hl.2; rw [List.length_drop] at this; omega
            · exfalso; have := hl.1; omega
            · exfalso; have := hl.1; omega
        · obtain ⟨q1, q2, q3⟩ := g1 u hu
          rw [List.length_drop] at q2 q3
          exact ⟨q1, fun hh => by have := q2 hh; omega, by omega⟩
      · refine ⟨by show (p : Int) ≤ ((p + k : Nat) : Int); omega, incT_mono us _ _ ?_ g2⟩
        show ((p + k : Nat) : Int) + 1 ≤ ((p + k + n : Nat) : Int)
        omega
end Go.Proofs.YtddpjjhekhompaaGreatDoor.P
namespace Go.Proofs.YtddpjjhekhompaaGreatDoor.P
open Go.RowKit Go.Proofs.YtddpjjhekhompaaGreatDoorW.PrintWords Go.Proofs.YtddpjjhekhompaaGreatDoorW.PrintLast Go.Proofs.YtddpjjhekhompaaGreatDoorW.PrintMore
set_option linter.unusedVariables false
set_option linter.unusedSimpArgs false
theorem skip_pad (a : List UInt8) (m p : Nat) : scan m p (47 :: 47 :: 10 :: a) = scan m (p + 3) a := by
  unfold scan
  have e : skipN false (47 :: 47 :: 10 :: a) = 3 + skipN false a := by
    have h : skipN false (47 :: 47 :: 10 :: a) = 1 + (1 + (1 + skipN false a)) := by
      rw [skipN_f, if_neg (by decide), if_pos ⟨rfl, rfl⟩]
      rfl
    rw [h]
    omega
  rw [e, show p + (3 + skipN false a) = p + 3 + skipN false a from by omega, show 3 + skipN false a = skipN false a + 3 from by omega]
  rfl
theorem skip_blanks (a : List UInt8) (m : Nat) : ∀ (n p : Nat), scan m p (List.replicate n 32 ++ a) = scan m (p + n) a := by
  intro n
  induction n with
  | zero => intro p; rfl
  | succ n ih =>
    intro p
    rw [List.replicate_succ, List.cons_append, scan_blank _ _ _ _ rfl, ih]
    congr 1
    omega
end Go.Proofs.YtddpjjhekhompaaGreatDoor.P
namespace Go.Proofs.YtddpjjhekhompaaGreatDoor.P
open Go.RowKit Go.Proofs.YtddpjjhekhompaaGreatDoorW.PrintWords Go.Proofs.YtddpjjhekhompaaGreatDoorW.PrintLast Go.Proofs.YtddpjjhekhompaaGreatDoorW.PrintMore
set_option linter.unusedVariables false
set_option linter.unusedSimpArgs false
theorem inc_mem : ∀ (ts : List TokS) (b : Int), incT b ts → ∀ t ∈ ts, b ≤ t.f3
  | [], _, _, _, ht => by cases ht
  | x :: ts, b, ⟨h1, h2⟩, t, ht => by
    rcases List.mem_cons.1 ht with rfl | ht
    · exact h1
    · have := inc_mem ts (x.f3 + 1) h2 t ht
      omega
theorem allF_scan (s : ByteArray) (h : s.size ≤ 5000) : allF s = endL s [] (scan 1000 0 (bl s)) := by
  have := all_small s h
  unfold token_All.f at this
  exact Option.some.inj this
theorem parse_at (s : ByteArray) (h : s.size ≤ 5000) : 0 ≤ (parseF s).2.1 ∧ (parseF s).2.1 ≤ (s.size : Int) := by
  have hl := bl_length s
  unfold parseF
  rw [allF_scan s h]
  cases hB : scan 1000 0 (bl s) with
  | inr x =>
    obtain ⟨q, e⟩ := x
    obtain ⟨h1, h2, h3⟩ := scan_err _ 1000 0 (bl s) q e (Nat.le_refl _) hB
    have he : e ≠ 0 := by omega
    rw [show endL s [] (.inr (q, e)) = ([], (q : Int), e) from rfl, if_pos (show (([], (q : Int), e) : List TokS × Int × Int).2.2 ≠ 0 from he)]
    constructor <;> dsimp only <;> omega
  | inl ts =>
    obtain ⟨f1, f2⟩ := scan_facts _ 1000 0 (bl s) ts (Nat.le_refl _) hB
    rw [show endL s [] (.inl ts) = (ts, (s.size : Int), 0) from rfl, if_neg (show ¬ ((ts, (s.size : Int), 0) : List TokS × Int × Int).2.2 ≠ 0 from fun h => h rfl)]
    dsimp only
    by_cases hb : (pAll (s.size : Int) ts).2.b = true
    · rw [if_pos hb]
      obtain ⟨c, hc, _⟩ := top_bad ts.length ([], []) (s.size : Int) ts (Nat.le_refl _) hb
      have hc2 : ts = c ++ (pAll (s.size : Int) ts).2.r := hc
      unfold pAt
      cases hr : (pAll (s.size : Int) ts).2.r with
      | nil => constructor <;> dsimp only <;> omega
      | cons t r =>
        have hm : t ∈ ts := by rw [hc2, hr]; simp
        have g1 := (f1 t hm).2.2
        have g2 := inc_mem ts _ f2 t hm
        constructor <;> dsimp only <;> omega
    · rw [if_neg hb]
      constructor <;> dsimp only <;> omega
theorem parse_pad (n : Nat) (x s : ByteArray) (h : s.size + 3 + n ≤ 5000) (hx : bl x = 47 :: 47 :: 10 :: List.replicate n 32) : parseF (x ++ s) = (shFi (3 + n) (parseF s).1, (parseF s).2.1 + ((3 + n : Nat) : Int), (parseF s).2.2) := by
  have hz : (x ++ s).size = s.size + (3 + n) := by rw [← bl_length, bl_app, hx, ← bl_length s]; simp; omega
  have hb : scan 1000 0 (bl (x ++ s)) = shE (3 + n) (scan 1000 0 (bl s)) := by
    rw [bl_app, hx]
    show scan 1000 0 (47 :: 47 :: 10 :: (List.replicate n 32 ++ bl s)) = _
    rw [skip_pad, skip_blanks, ← scan_shift]
    exact congrArg (fun z => scan 1000 z (bl s)) (by omega)
  unfold parseF
  rw [allF_scan _ (by omega), allF_scan s (by omega), hb, hz]
  cases hB : scan 1000 0 (bl s) with
  | inr x =>
    obtain ⟨q, e⟩ := x
    obtain ⟨h1, h2, h3⟩ := scan_err _ 1000 0 (bl s) q e (Nat.le_refl _) hB
    have he : e ≠ 0 := by omega
    rw [show endL (x ++ s) [] (shE (3 + n) (.inr (q, e))) = ([], ((q + (3 + n) : Nat) : Int), e) from rfl, show endL s [] (.inr (q, e)) = ([], (q : Int), e) from rfl, if_pos (show (([], ((q + (3 + n) : Nat) : Int), e) : List TokS × Int × Int).2.2 ≠ 0 from he), if_pos (show (([], (q : Int), e) : List TokS × Int × Int).2.2 ≠ 0 from he)]
    simp [shFi]
  | inl ts =>
    rw [show endL (x ++ s) [] (shE (3 + n) (.inl ts)) = (ts.map (shT (3 + n)), ((x ++ s).size : Int), 0) from rfl, show endL s [] (.inl ts) = (ts, (s.size : Int), 0) from rfl, if_neg (show ¬ ((ts.map (shT (3 + n)), ((x ++ s).size : Int), 0) : List TokS × Int × Int).2.2 ≠ 0 from fun h => h rfl), if_neg (show ¬ ((ts, (s.size : Int), 0) : List TokS × Int × Int).2.2 ≠ 0 from fun h => h rfl)]
    dsimp only
    have hp := pAll_sh (3 + n) (s.size : Int) ts
    rw [show ((s.size + (3 + n) : Nat) : Int) = (s.size : Int) + ((3 + n : Nat) : Int) from by omega, hp]
    by_cases hb : (pAll (s.size : Int) ts).2.b = true
    · rw [if_pos (show (shFi (3 + n) (pAll (s.size : Int) ts).1, shS (3 + n) (pAll (s.size : Int) ts).2).2.b = true from hb), if_pos hb]
      dsimp only
      rw [pAt_sh]
      simp [shFi]
    · rw [if_neg (show ¬ (shFi (3 + n) (pAll (s.size : Int) ts).1, shS (3 + n) (pAll (s.size : Int) ts).2).2.b = true from hb), if_neg hb]
theorem allEq_map {α : Type} (g : α → α → Bool) (f : α → α) (h : ∀ x, g x (f x) = true) : ∀ l : List α, allEq g l (l.map f) = true
  | [] => rfl
  | x :: r => by rw [List.map_cons, allEq, h x, allEq_map g f h r]; rfl
theorem allEq_self {α : Type} (g : α → α → Bool) (h : ∀ x, g x x = true) : ∀ l : List α, allEq g l l = true
  | [] => rfl
  | x :: r => by rw [allEq, h x, allEq_self g h r]; rfl
theorem same_sh (d : Nat) (f : FileS) : sameFile f.1 f.2 (shFi d f).1 (shFi d f).2 = true := by
  have hf : ∀ x, sameF x (shF d x) = true := fun x => by unfold sameF shF; simp
  have hv : ∀ x, sameV x (shV d x) = true := fun x => by unfold sameV shV; simp
  have hm : ∀ x, sameM x (shM d x) = true := fun x => by
    unfold sameM shM
    rw [if_pos rfl, allEq_map sameF (shF d) hf, allEq_self strEq (fun x => by unfold strEq; simp), allEq_self intEq (fun x => by unfold intEq; simp)]
    rfl
  have he : ∀ x, sameE x (shEn d x) = true := fun x => by
    unfold sameE shEn
    rw [if_pos rfl, allEq_map sameV (shV d) hv]
  unfold sameFile shFi
  rw [allEq_map sameM (shM d) hm, allEq_map sameE (shEn d) he]
  rfl
theorem pb_l0 (s : ByteArray) (hs : s.size ≤ 1500) (n : Int) (hn : n ≤ 100) : ∀ (d i : Nat) (x : ByteArray), n.toNat - i ≤ d → (i : Int) ≤ n → bl x = 47 :: 47 :: 10 :: List.replicate i 32 → ∀ k, d < k → trufflelaw07_ProtoBlanks.l0 k s n x i = some true := by
  intro d
  induction d with
  | zero =>
    intro i x hd hi hx k hk
    obtain ⟨k, rfl⟩ : ∃ m, k = m + 1 := ⟨k - 1, by omega⟩
    have hz : x.size = 3 + i := by rw [← bl_length, hx]; simp; omega
    obtain ⟨a1, a2⟩ := parse_at s (by omega)
    simp only [trufflelaw07_ProtoBlanks.l0, proto_Parse.f, proto_Same.f, Option.bind_some]
    rw [if_neg (by omega), if_pos (by omega), parse_pad i x s (by omega) hx, if_pos rfl]
    dsimp only
    rw [same_sh, if_pos rfl, hz]
    have hw : wrap64 ((parseF s).2.1 + ((3 + i : Nat) : Int)) = (parseF s).2.1 + ((3 + i : Nat) : Int) := by unfold wrap64; omega
    rw [hw]
    simp
  | succ d ih =>
    intro i x hd hi hx k hk
    by_cases hlt : (i : Int) < n
    · obtain ⟨k, rfl⟩ : ∃ m, k = m + 1 := ⟨k - 1, by omega⟩
      have hz : x.size = 3 + i := by rw [← bl_length, hx]; simp; omega
      have hw : wrap64 ((i : Int) + 1) = ((i + 1 : Nat) : Int) := by unfold wrap64; omega
      simp only [trufflelaw07_ProtoBlanks.l0]
      rw [if_pos hlt, if_pos (by omega), hw]
      refine ih (i + 1) (x ++ ⟨#[32]⟩) (by omega) (by omega) ?_ k (by omega)
      rw [bl_app, hx, List.replicate_succ']
      rfl
    · refine (?_ : trufflelaw07_ProtoBlanks.l0 k s n x i = some true)
      obtain ⟨k, rfl⟩ : ∃ m, k = m + 1 := ⟨k - 1, by omega⟩
      have hz : x.size = 3 + i := by rw [← bl_length, hx]; simp; omega
      obtain ⟨a1, a2⟩ := parse_at s (by omega)
      simp only [trufflelaw07_ProtoBlanks.l0, proto_Parse.f, proto_Same.f, Option.bind_some]
      rw [if_neg (by omega), if_pos (by omega), parse_pad i x s (by omega) hx, if_pos rfl]
      dsimp only
      rw [same_sh, if_pos rfl, hz]
      have hw : wrap64 ((parseF s).2.1 + ((3 + i : Nat) : Int)) = (parseF s).2.1 + ((3 + i : Nat) : Int) := by unfold wrap64; omega
      rw [hw]
      simp
theorem ProtoBlanks : trufflelaw07_ProtoBlanks.Pure := by
  intro s n hs hw
  refine ⟨1000, ?_⟩
  unfold trufflelaw07_ProtoBlanks.f
  rw [awake07_true, Option.bind_some, if_pos rfl]
  have hT : ∀ k : Nat, trufflelaw07_ProtoBlanks.j0 (k + 1) s n true true = some true := fun k => by simp only [trufflelaw07_ProtoBlanks.j0, if_true]
  by_cases h1 : (s.size : Int) > 1500
  · rw [if_pos h1]; exact hT 999
  · rw [if_neg h1]
    by_cases h2 : n < 0
    · rw [if_pos h2]; exact hT 999
    · rw [if_neg h2]
      by_cases h3 : n > 100
      · rw [decide_eq_true h3]; exact hT 999
      · rw [decide_eq_false h3]
        simp only [trufflelaw07_ProtoBlanks.j0]
        rw [if_neg Bool.false_ne_true]
        exact pb_l0 s (by omega) n (by omega) n.toNat 0 ⟨#[47, 47, 10]⟩ (by omega) (by omega) rfl _ (by omega)
end Go.Proofs.YtddpjjhekhompaaGreatDoor.P
namespace Go.Proofs.YtddpjjhekhompaaGreatDoor.laidKit
open Go.RowKit
abbrev lst : List (String × DataW Unit) := [("math/bits.deBruijn32tab", Rows.laid_math_bits_deBruijn32tab), ("math/bits.deBruijn64tab", Rows.laid_math_bits_deBruijn64tab), ("internal/strconv.uint64pow10", Rows.laid_internal_strconv_uint64pow10), ("strconv.ErrRange", Rows.laid_strconv_ErrRange), ("strconv.ErrSyntax", Rows.laid_strconv_ErrSyntax)]
theorem gPow : Tryz.prog.globalNamed "internal/strconv.uint64pow10" = some 0 := by kernel_rfl
theorem gPowT : (Tryz.prog.globals[0]?).map (·.type) = some 249 := by kernel_rfl
theorem cPow : Tryz.prog.cellsOf 249 = 20 := by kernel_rfl
theorem cU64 : Tryz.prog.cellsOf 218 = 1 := by kernel_rfl
theorem gRng : Tryz.prog.globalNamed "strconv.ErrRange" = some 2 := by kernel_rfl
theorem gRngT : (Tryz.prog.globals[2]?).map (·.type) = some 162 := by kernel_rfl
theorem gSyn : Tryz.prog.globalNamed "strconv.ErrSyntax" = some 1 := by kernel_rfl
theorem gSynT : (Tryz.prog.globals[1]?).map (·.type) = some 162 := by kernel_rfl
theorem cErr : Tryz.prog.cellsOf 267 = 1 := by kernel_rfl
theorem cStr : Tryz.prog.cellsOf 9 = 1 := by kernel_rfl
theorem star : "*" ++ "errors.errorString" = "*errors.errorString" := by decide
theorem rowErr (u : TypeId) (h : Tryz.prog.typeName? 3 u = some "*errors.errorString") : u = 265 :=
  typeName_ptr_named (nm := "errors.errorString") (by rw [star]; kernel_rfl) (by kernel_rfl) (by decide) u (by rw [star]; exact h)
theorem pow_is : (Rows.laid_internal_strconv_uint64pow10 : DataW Unit) = Lib.tabData .u64 Lib.pow10Tab := by rfl
theorem ginv {W : World} (h : laidMetH Tryz.prog lst W) : P.GInv W := by
  rw [Go.MakeChecks.laidMetH_plain _ _ _ (by kernel_rfl)] at h
  have h3 := h.tail.tail
  have hp : Lib.TabIs Tryz.prog W "internal/strconv.uint64pow10" .u64 Lib.pow10Tab :=
    Lib.tabIs_of_head gPow gPowT Tryz.underlying249 Tryz.underlying218 cU64 cPow (by rw [← pow_is]; exact h3)
  obtain ⟨a1, s1, hv1, _, _, _⟩ := laid_sentinel h3.tail gRng gRngT Tryz.underlying162 rowErr Tryz.underlying265 Tryz.underlying267 rfl rfl Tryz.underlying9 cErr cStr
  obtain ⟨a2, s2, hv2, _, _, _⟩ := laid_sentinel h3.tail.tail gSyn gSynT Tryz.underlying162 rowErr Tryz.underlying265 Tryz.underlying267 rfl rfl Tryz.underlying9 cErr cStr
  refine ⟨⟨_, _, by have h0 := World.var?_cell gSyn hv2 0; simpa using h0⟩, ⟨_, _, by have h0 := World.var?_cell gRng hv1 0; simpa using h0⟩, hp, ?_⟩
  have c0 := hp.cell gPow 0 (by decide)
  exact World.block_lt_of_cell? W _ c0
abbrev synS : ByteArray := { data := #[105, 110, 118, 97, 108, 105, 100, 32, 115, 121, 110, 116, 97, 120] }
abbrev rngS : ByteArray := { data := #[118, 97, 108, 117, 101, 32, 111, 117, 116, 32, 111, 102, 32, 114, 97, 110, 103, 101] }
def cellsOfData : DataW Unit → Array Value
  | .agg l => (l.map fun
      | .lit (.int k n) => Value.int k n
      | _ => .nilIface).toArray
  | _ => #[]
noncomputable def low : Nat := (World.holding Tryz.prog default ⟨#[], #[], []⟩).heap.size
noncomputable def laidWorld (os : Os) : World :=
  let w0 := World.holding Tryz.prog os ⟨#[.cells #[.string synS] 267, .cells #[.string rngS] 267], #[], []⟩
  { w0 with heap := ((((w0.heap.modify 0 fun
      | .cells _ t frozen => .cells (cellsOfData Rows.laid_internal_strconv_uint64pow10) t frozen
      | o => o).modify 1 fun
      | .cells _ t frozen => .cells #[.iface 265 (.pointer (some ⟨low, 0, none⟩))] t frozen
      | o => o).modify 2 fun
      | .cells _ t frozen => .cells #[.iface 265 (.pointer (some ⟨low + 1, 0, none⟩))] t frozen
      | o => o).modify 4 fun
      | .cells _ t frozen => .cells (cellsOfData Rows.laid_math_bits_deBruijn32tab) t frozen
      | o => o).modify 5 fun
      | .cells _ t frozen => .cells (cellsOfData Rows.laid_math_bits_deBruijn64tab) t frozen
      | o => o }
theorem laid_met (os : Os) (args : Array Value) : laidMet Tryz.prog lst ((laidWorld os).forCall (fun _ _ => 0) ⟨#[], args, []⟩).memory :=
  laidMet_of_run' 8 (by kernel_rfl) (by kernel_rfl)
end Go.Proofs.YtddpjjhekhompaaGreatDoor.laidKit
