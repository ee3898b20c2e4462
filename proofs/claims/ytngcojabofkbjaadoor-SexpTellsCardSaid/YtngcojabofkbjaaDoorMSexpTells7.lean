/- Part 7 of what the law SexpTells leans on: contracts of the functions that it reaches, and plain lemmas; printed walks and words (by the kit's print, through wip/mp.py) and the session's own texts, one behind the other, what is not used left out (wip/prune.py). -/
import Derived.Lib.Join
import Derived.Lib.ItoaMem
import Derived.Test.YtngcojabofkbjaaDoorMSexpTells1
import Derived.Test.YtngcojabofkbjaaDoorMSexpTells2
import Derived.Test.YtngcojabofkbjaaDoorMSexpTells3
import Derived.Test.YtngcojabofkbjaaDoorMSexpTells4
import Derived.Test.YtngcojabofkbjaaDoorMSexpTells5
import Derived.Test.YtngcojabofkbjaaDoorMSexpTells6
namespace Go.Proofs.YtngcojabofkbjaaDoor.P
open Go.RowKit Go.Proofs.YtngcojabofkbjaaDoorW.PrintWords Go.Proofs.YtngcojabofkbjaaDoorW.PrintLast Go.Proofs.YtngcojabofkbjaaDoorW.PrintMore
set_option linter.unusedVariables false
set_option linter.unusedSimpArgs false
def trufflelaw14_awake.f  : Option (Bool) := (sexp_Parse.f (⟨#[40, 101, 113, 32, 97, 32, 53, 41]⟩ : ByteArray)).bind fun bt324 => (if bt324.2.2.2.2.2.2 = 0 then (if bt324.2.2.2.2.2.1 = 8 then (if bt324.1 = 4 then (if (bt324.2.2.2.2.1.length : Int) = 3 then (if 2 < (bt324.2.2.2.2.1.length : Int) then (if ((rd_T39 bt324.2.2.2.2.1 2).f2) = 5 then ((sexp_May.f bt324.1 bt324.2.1 bt324.2.2.1 bt324.2.2.2.1 bt324.2.2.2.2.1).bind fun t335 => (if t335 = true then ((sexp_Print.f bt324.1 bt324.2.1 bt324.2.2.1 bt324.2.2.2.1 bt324.2.2.2.2.1).bind fun t336 => (some (t336.toList == ([40, 101, 113, 32, 97, 32, 53, 41] : List UInt8)))) else (some false))) else (some false)) else (none)) else (some false)) else (some false)) else (some false)) else (some false))
set_option maxHeartbeats 8000000 in
set_option maxRecDepth 100000 in
theorem trufflelaw14_awake.callsT  (w : World) (hG : GInv w) (h : trufflelaw14_awake.f  = some true) :
  Calls Tryd.prog 23 #[] w fun e w' => e = .returned (.bool true) ∧ Below w.heap.size w w' := by
 have hu39 := Tryd.underlying39
 have HB := Y0 (Below.refl w.heap.size w)
 have H : ((sexp_Parse.f (⟨#[40, 101, 113, 32, 97, 32, 53, 41]⟩ : ByteArray)).bind fun bt324 => (if bt324.2.2.2.2.2.2 = 0 then (if bt324.2.2.2.2.2.1 = 8 then (if bt324.1 = 4 then (if (bt324.2.2.2.2.1.length : Int) = 3 then (if 2 < (bt324.2.2.2.2.1.length : Int) then (if ((rd_T39 bt324.2.2.2.2.1 2).f2) = 5 then ((sexp_May.f bt324.1 bt324.2.1 bt324.2.2.1 bt324.2.2.2.1 bt324.2.2.2.2.1).bind fun t335 => (if t335 = true then ((sexp_Print.f bt324.1 bt324.2.1 bt324.2.2.1 bt324.2.2.2.1 bt324.2.2.2.2.1).bind fun t336 => (some (t336.toList == ([40, 101, 113, 32, 97, 32, 53, 41] : List UInt8)))) else (some false))) else (some false)) else (none)) else (some false)) else (some false)) else (some false)) else (some false))) = some true := h
 clear h
 replace H := Y17.mp H
 obtain ⟨⟨t324, t325, t326, t327, t328, t331, t332⟩, A10, H⟩ := H
 try dsimp only at H
 have A1 := Y0 A10
 clear A10
 by_cases c2 : t332 = 0
 rotate_left
 ·rw [if_neg c2] at H
  have c2b0 : (t332 == 0) = false := beq_eq_false_iff_ne.mpr c2
  have c2b1 : (t332 != 0) = true := bne_iff_ne.mpr c2
  exact absurd (Option.some.inj H) Bool.false_ne_true
 rw [if_pos c2] at H
 have c2b0 : (t332 == 0) = true := beq_iff_eq.mpr c2
 have c2b1 : (t332 != 0) = false := bne_eq_false_iff_eq.mpr c2
 clear c2
 by_cases c3 : t331 = 8
 rotate_left
 ·rw [if_neg c3] at H
  have c3b0 : (t331 == 8) = false := beq_eq_false_iff_ne.mpr c3
  have c3b1 : (t331 != 8) = true := bne_iff_ne.mpr c3
  exact absurd (Option.some.inj H) Bool.false_ne_true
 rw [if_pos c3] at H
 have c3b0 : (t331 == 8) = true := beq_iff_eq.mpr c3
 have c3b1 : (t331 != 8) = false := bne_eq_false_iff_eq.mpr c3
 clear c3
 by_cases c4 : t324 = 4
 rotate_left
 ·rw [if_neg c4] at H
  have c4b0 : (t324 == 4) = false := beq_eq_false_iff_ne.mpr c4
  have c4b1 : (t324 != 4) = true := bne_iff_ne.mpr c4
  exact absurd (Option.some.inj H) Bool.false_ne_true
 rw [if_pos c4] at H
 have c4b0 : (t324 == 4) = true := beq_iff_eq.mpr c4
 have c4b1 : (t324 != 4) = false := bne_eq_false_iff_eq.mpr c4
 clear c4
 by_cases c5 : (t328.length : Int) = 3
 rotate_left
 ·rw [if_neg c5] at H
  have c5b0 : ((t328.length : Int) == 3) = false := beq_eq_false_iff_ne.mpr c5
  have c5b1 : ((t328.length : Int) != 3) = true := bne_iff_ne.mpr c5
  exact absurd (Option.some.inj H) Bool.false_ne_true
 rw [if_pos c5] at H
 have c5b0 : ((t328.length : Int) == 3) = true := beq_iff_eq.mpr c5
 have c5b1 : ((t328.length : Int) != 3) = false := bne_eq_false_iff_eq.mpr c5
 clear c5
 by_cases c6 : 2 < (t328.length : Int)
 rotate_left
 ·rw [if_neg c6] at H
  exact absurd H (by simp)
 rw [if_pos c6] at H
 have c6b0 : decide (2 < (t328.length : Int)) = true := decide_eq_true c6
 have c6b1 : decide (2 < t328.length) = true := decide_eq_true (by omega)
 clear c6
 by_cases c7 : ((rd_T39 t328 2).f2) = 5
 rotate_left
 ·rw [if_neg c7] at H
  have c7b0 : (((rd_T39 t328 2).f2) == 5) = false := beq_eq_false_iff_ne.mpr c7
  have c7b1 : (((rd_T39 t328 2).f2) != 5) = true := bne_iff_ne.mpr c7
  exact absurd (Option.some.inj H) Bool.false_ne_true
 rw [if_pos c7] at H
 have c7b0 : (((rd_T39 t328 2).f2) == 5) = true := beq_iff_eq.mpr c7
 have c7b1 : (((rd_T39 t328 2).f2) != 5) = false := bne_eq_false_iff_eq.mpr c7
 clear c7
 replace H := Y17.mp H
 obtain ⟨t335, A80, H⟩ := H
 try dsimp only at H
 have A8 := Y0 A80
 clear A80
 by_cases c9 : t335 = true
 rotate_left
 ·replace c9 := Bool.eq_false_iff.mpr c9
  subst c9
  rw [if_neg (show ¬ (false = true) by decide)] at H
  exact absurd (Option.some.inj H) Bool.false_ne_true
 subst c9
 rw [if_pos rfl] at H
 replace H := Y17.mp H
 obtain ⟨t336, A100, H⟩ := H
 try dsimp only at H
 have A10 := Y0 A100
 clear A100
 have hv_ := Option.some.inj H
 go_enter Tryd.func23, Tryd.ntmps23
 go_wp2_with (first | ((with_reducible refine gate_callee (f := 24) rfl ?_); refine goesL_ (some 5) rfl rfl Tryd.func24 (by kernel_rfl) rfl #[.string (⟨#[40, 101, 113, 32, 97, 32, 53, 41]⟩ : ByteArray)] rfl (by (try simp only [List.map_toArray, List.map_cons, List.map_nil]); first | done | rfl | (simp only [List.length_drop, List.length_take]; rfl)) ?_; (with_reducible refine (sexp_Parse.calls (⟨#[40, 101, 113, 32, 97, 32, 53, 41]⟩ : ByteArray) t324 t325 t326 t327 t328 t331 t332 _ ?side1 A1.out).mono ?_); (case side1 => exact hG.below (by repeat (with_reducible first | exact HB.out | apply Y3 | apply Y1 | apply Y2))); rintro e w11 ⟨v329, rfl, ho0, hb⟩; refine ⟨_, rfl, ?_⟩; have n0_ := Y0 (Kd.R_lower ho0 (below_size (by repeat (with_reducible first | exact HB.out | apply Y3 | apply Y1 | apply Y2)))); have n1_ := Y0 (below_step (by repeat (with_reducible first | exact HB.out | apply Y3 | apply Y1 | apply Y2)) hb); clear HB; have HO330 := n0_; have HB := n1_; clear n0_ n1_; (try clear hb); (try clear hb2); (try clear hk); (try clear hi); (try clear ho0)) | ((with_reducible refine gate_dst (N := 1) rfl ?_); (try (refine gate_guard (by rfl) ?_; dsimp only)); refine box_event ?hg (N := 1) ?hd (cs := #[.int .i64 0, .string (⟨#[]⟩ : ByteArray), .int .i64 0, .int .i64 0, .slice none 0 0]) (t := 39) ?hr ?_; (case hd => rfl); (case hg => rfl); (case hr => first | (go_simp; done) | (go_simp; rfl)); intro gb333 hg w12 hbox hb; have n0_ := Y0 (Kd.R_below (Kd.R_elderB (by (with_reducible repeat (first | apply Kd.R_alloc | apply Y6 | apply Y7)); exact HO330.out) gb333 (Nat.le_of_eq hg.symm)) hb); have n1_ := Y0 (below_step (by repeat (with_reducible first | exact HB.out | apply Y3 | apply Y1 | apply Y2)) hb); have n2_ := Y0 (hbox); have n3_ := Y0 ((by rw [hg]; exact (below_size (by repeat (with_reducible first | exact HB.out | apply Y3 | apply Y1 | apply Y2))) : w.heap.size ≤ gb333)); have n4_ := Y0 ((by rw [hg]; exact (below_size (by repeat (with_reducible first | exact HB.out | apply Y3 | apply Y1 | apply Y2))) : w.heap.size ≤ gb333)); clear HO330; clear HB; have HO330 := n0_; have HB := n1_; have BK333 := n2_; have GW333 := n3_; have GE333 := n4_; clear n0_ n1_ n2_ n3_ n4_; clear hb hbox hg; have ⟨hcz13_0, hcz13_1, hcz13_2, hcz13_3, hcz13_4, hfz13_0, hfz13_1, hfz13_2, hfz13_3, hfz13_4⟩ := sq_box5 BK333.out; obtain ⟨Ao14, co14, eo14⟩ := Kd.R_slice HO330.out; subst eo14) | ((with_reducible refine gate_store (t := 39) (p := 1) rfl ?_); refine store_event (t := 39) (p := 1) (v := ?vo_w15) (w1 := (((((w12.setCell ⟨gb333, 0, none⟩ (.int .i64 t324)).setCell ⟨gb333, 1, none⟩ (.string t325)).setCell ⟨gb333, 2, none⟩ (.int .i64 t326)).setCell ⟨gb333, 3, none⟩ (.int .i64 t327)).setCell ⟨gb333, 4, none⟩ (.slice Ao14 t328.length co14))) ?hg ?ho ?hn ?hr ?_; (case ho => rfl); (case hg => rfl); (case hn => rfl); (case hr => first | (go_simp; done) | (go_simp; rfl)); intro w15 hw; have n0_ : Aside0 (Kd.R k39 39 w15 w.heap.size (fun k_ => k_ ≠ gb333) (.slice Ao14 t328.length co14) t328) := ⟨(by rw [hw]; exact (by (with_reducible repeat (first | apply Kd.R_alloc | apply Y6 | apply Y7)); exact Kd.R_mono (Kd.R_far (p := ⟨gb333, 4, none⟩) (Kd.R_far (p := ⟨gb333, 3, none⟩) (Kd.R_far (p := ⟨gb333, 2, none⟩) (Kd.R_far (p := ⟨gb333, 1, none⟩) (Kd.R_far (p := ⟨gb333, 0, none⟩) (Kd.R_mono HO330.out (fun k_ hk => (⟨hk, hk.2⟩ : _ ∧ k_ ≠ gb333))) (fun _ hk => hk.2) (.int .i64 t324)) (fun _ hk => hk.2) (.string t325)) (fun _ hk => hk.2) (.int .i64 t326)) (fun _ hk => hk.2) (.int .i64 t327)) (fun _ hk => hk.2) (.slice Ao14 t328.length co14)) (fun _ hk => hk.1.2)))⟩; have n1_ : Aside0 (w15.heap[gb333]? = some (.cells #[.int .i64 t324, .string t325, .int .i64 t326, .int .i64 t327, .slice Ao14 t328.length co14] 39 (0, 0))) := ⟨(by rw [hw]; exact (by (with_reducible repeat first | apply Y11 | apply Y13 | apply Y12); refine blk_put (cs := #[.int .i64 t324, .string t325, .int .i64 t326, .int .i64 t327, .slice none 0 0]) ?_ 4 _ rfl; (with_reducible repeat first | apply Y11 | apply Y13 | apply Y12); refine blk_put (cs := #[.int .i64 t324, .string t325, .int .i64 t326, .int .i64 0, .slice none 0 0]) ?_ 3 _ rfl; (with_reducible repeat first | apply Y11 | apply Y13 | apply Y12); refine blk_put (cs := #[.int .i64 t324, .string t325, .int .i64 0, .int .i64 0, .slice none 0 0]) ?_ 2 _ rfl; (with_reducible repeat first | apply Y11 | apply Y13 | apply Y12); refine blk_put (cs := #[.int .i64 t324, .string (⟨#[]⟩ : ByteArray), .int .i64 0, .int .i64 0, .slice none 0 0]) ?_ 1 _ rfl; (with_reducible repeat first | apply Y11 | apply Y13 | apply Y12); refine blk_put (cs := #[.int .i64 0, .string (⟨#[]⟩ : ByteArray), .int .i64 0, .int .i64 0, .slice none 0 0]) ?_ 0 _ rfl; (with_reducible repeat first | apply Y11 | apply Y13 | apply Y12); exact BK333.out))⟩; have n2_ : Aside0 (Below w.heap.size w w15) := ⟨(by rw [hw]; exact (by repeat (with_reducible first | exact HB.out | apply Y3 | apply Y1 | apply Y2 | refine Y4 ?_ GE333.out)))⟩; clear hw; clear HO330; clear BK333; clear HB; have HO330 := n0_; have BK333 := n1_; have HB := n2_; clear n0_ n1_ n2_; have ⟨hcz16_0, hcz16_1, hcz16_2, hcz16_3, hcz16_4, hfz16_0, hfz16_1, hfz16_2, hfz16_3, hfz16_4⟩ := sq_box5 BK333.out; have p334 : 0 ≤ (2 : Int) := (by omega); have q334 : 2 < (t328.length : Int) := of_decide_eq_true (by first | (with_reducible assumption) | assumption); obtain ⟨ad334, A334_4, c334_4, e334, hx334_0, hx334_1, hx334_2, hx334_3, hx334_4, hl334_4, hi334_4⟩ := at_T39 (Kd.R_reads' HO330.out).2.2 2 p334 q334; cases e334; obtain ⟨ce334, hce334, hMe334, hcc334⟩ := Kd.R_get HO330.out z39 2 p334 (by first | exact q334 | exact of_decide_eq_true (by first | (with_reducible assumption) | assumption) | (have e_ := (Kd.R_reads' HO330.out).1; omega)); obtain ⟨ve334_4, rfl, ge334_4⟩ := k39_openM hMe334; have hv334_4 := hcc334 4 _ rfl; rw [add_field _ _ 4 (by omega)] at hv334_4; replace hv334_4 := Option.some.inj (hv334_4.symm.trans hx334_4); rw [hv334_4] at ge334_4; have HL334_4 := Y0 (show Kd.R k39 39 _ _ _ _ ((rd_T39 t328 2).f4) from ge334_4); clear hv334_4 ge334_4; clear hcc334 hce334; (try simp only [show (2 : Int).toNat = 2 from rfl, Nat.reduceMul, Nat.reduceEqDiff, Go.Addr.add, ↓reduceIte] at hx334_0); (try simp only [show (2 : Int).toNat = 2 from rfl, Nat.reduceMul, Nat.reduceEqDiff, Go.Addr.add, ↓reduceIte] at hx334_1); (try simp only [show (2 : Int).toNat = 2 from rfl, Nat.reduceMul, Nat.reduceEqDiff, Go.Addr.add, ↓reduceIte] at hx334_2); (try simp only [show (2 : Int).toNat = 2 from rfl, Nat.reduceMul, Nat.reduceEqDiff, Go.Addr.add, ↓reduceIte] at hx334_3); (try simp only [show (2 : Int).toNat = 2 from rfl, Nat.reduceMul, Nat.reduceEqDiff, Go.Addr.add, ↓reduceIte] at hx334_4); have qi334 : (2 < t328.length) = True := eq_true (by omega); (try rw [show ((2 : Int)).toNat = 2 from rfl] at hx334_0); (try rw [show 2 * 5 = 10 from rfl] at hx334_0); (try rw [show ((2 : Int)).toNat = 2 from rfl] at hx334_1); (try rw [show 2 * 5 = 10 from rfl] at hx334_1); (try rw [show ((2 : Int)).toNat = 2 from rfl] at hx334_2); (try rw [show 2 * 5 = 10 from rfl] at hx334_2); (try rw [show ((2 : Int)).toNat = 2 from rfl] at hx334_3); (try rw [show 2 * 5 = 10 from rfl] at hx334_3); (try rw [show ((2 : Int)).toNat = 2 from rfl] at hx334_4); (try rw [show 2 * 5 = 10 from rfl] at hx334_4); have HR334_4 := Y0 hi334_4; have HC334_4 := Y0 hl334_4; clear hi334_4 hl334_4; replace p334 := eq_true p334; replace q334 := eq_true q334) | (go_at_call 25; (with_reducible refine (sexp_May.calls t324 t325 t326 t327 _ _ t328 true _ ?side1 ?side2 ?side3 A8.out).mono ?_); (case side1 => exact hG.below (by repeat (with_reducible first | exact HB.out | apply Y3 | apply Y1 | apply Y2 | refine Y4 ?_ GE333.out))); (case side2 => repeat (first | exact (Kd.R_reads' HO330.out).2.2 | (with_reducible refine Kd.C_alloc ?_ _) | (with_reducible refine Kd.C_drewN ?_ _) | (with_reducible refine Kd.C_drew ?_))); (case side3 => exact (Kd.R_reads' HO330.out).2.1); rintro e w17 ⟨rfl, hb⟩; have n0_ := Y0 (Kd.R_below (by (with_reducible repeat (first | apply Kd.R_alloc | apply Y6 | apply Y7)); exact HO330.out) hb); have n1_ := Y0 (Kd.R_below (by (with_reducible repeat (first | apply Kd.R_alloc | apply Y6 | apply Y7)); exact HL334_4.out) hb); have n2_ := Y0 (blk_below (g := gb333) (o := .cells #[.int .i64 t324, .string t325, .int .i64 t326, .int .i64 t327, .slice (some ad334) t328.length co14] 39 (0, 0)) (by (with_reducible repeat first | apply Y11 | apply Y13 | apply Y12); exact BK333.out) hb); have n3_ := Y0 (Kd.C_below (by repeat (first | (with_reducible exact HR334_4.out) | (with_reducible refine Kd.C_alloc ?_ _) | (with_reducible refine Kd.C_drewN ?_ _) | (with_reducible refine Kd.C_drew ?_) | exact HR334_4.out)) hb); have n4_ := Y0 (below_step (by repeat (with_reducible first | exact HB.out | apply Y3 | apply Y1 | apply Y2 | refine Y4 ?_ GE333.out)) hb); clear HO330; clear HL334_4; clear BK333; clear HR334_4; clear HB; have HO330 := n0_; have HL334_4 := n1_; have BK333 := n2_; have HR334_4 := n3_; have HB := n4_; clear n0_ n1_ n2_ n3_ n4_; (try clear hb); (try clear hb2); (try clear hk); (try clear hi); have ⟨hcz18_0, hcz18_1, hcz18_2, hcz18_3, hcz18_4, hfz18_0, hfz18_1, hfz18_2, hfz18_3, hfz18_4⟩ := sq_box5 BK333.out) | (go_at_call 30; (with_reducible refine (sexp_Print.calls t324 t325 t326 t327 _ _ t328 t336 _ ?side1 ?side2 ?side3 A10.out).mono ?_); (case side1 => exact hG.below (by repeat (with_reducible first | exact HB.out | apply Y3 | apply Y1 | apply Y2 | refine Y4 ?_ GE333.out))); (case side2 => repeat (first | exact (Kd.R_reads' HO330.out).2.2 | (with_reducible refine Kd.C_alloc ?_ _) | (with_reducible refine Kd.C_drewN ?_ _) | (with_reducible refine Kd.C_drew ?_))); (case side3 => exact (Kd.R_reads' HO330.out).2.1); rintro e w19 ⟨rfl, hb⟩; have n0_ := Y0 (Kd.R_below (by (with_reducible repeat (first | apply Kd.R_alloc | apply Y6 | apply Y7)); exact HO330.out) hb); have n1_ := Y0 (Kd.R_below (by (with_reducible repeat (first | apply Kd.R_alloc | apply Y6 | apply Y7)); exact HL334_4.out) hb); have n2_ := Y0 (blk_below (g := gb333) (o := .cells #[.int .i64 t324, .string t325, .int .i64 t326, .int .i64 t327, .slice (some ad334) t328.length co14] 39 (0, 0)) (by (with_reducible repeat first | apply Y11 | apply Y13 | apply Y12); exact BK333.out) hb); have n3_ := Y0 (Kd.C_below (by repeat (first | (with_reducible exact HR334_4.out) | (with_reducible refine Kd.C_alloc ?_ _) | (with_reducible refine Kd.C_drewN ?_ _) | (with_reducible refine Kd.C_drew ?_) | exact HR334_4.out)) hb); have n4_ := Y0 (below_step (by repeat (with_reducible first | exact HB.out | apply Y3 | apply Y1 | apply Y2 | refine Y4 ?_ GE333.out)) hb); clear HO330; clear HL334_4; clear BK333; clear HR334_4; clear HB; have HO330 := n0_; have HL334_4 := n1_; have BK333 := n2_; have HR334_4 := n3_; have HB := n4_; clear n0_ n1_ n2_ n3_ n4_; (try clear hb); (try clear hb2); (try clear hk); (try clear hi)))
 go_ret
 exact ⟨by first | rfl | (rw [hv_]; done) | (simp [hv_]; done) | (simp [← hv_]; done) | (simp [] <;> rfl) | (simp [*] <;> rfl), by repeat (with_reducible first | exact HB.out | apply Y3 | apply Y1 | apply Y2 | refine Y4 ?_ GE333.out)⟩
mutual
def truffleref14_count.j0 : Nat → Int → Bool → Int → ByteArray → Int → Int → List (S39) → Option (Int)
 | 0, _, _, _, _, _, _, _ => none
 | k + 1, x1, x14, x353000, x353001, x353002, x353003, x353004 => if x14 = true then (some 100000) else (truffleref14_count.l0 k x1 (wrap64 (1 + (wrap64 ((x353001.size : Int) / 100)))) 0 x353000 x353001 x353002 x353003 x353004)
def truffleref14_count.l0 : Nat → Int → Int → Int → Int → ByteArray → Int → Int → List (S39) → Option (Int)
 | 0, _, _, _, _, _, _, _, _ => none
 | k + 1, x1, x5, x6, x353000, x353001, x353002, x353003, x353004 => if x6 < (x353004.length : Int) then (if x5 ≤ 2000 then (if 0 ≤ x6 then ((truffleref14_count.f k ((rd_T39 x353004 x6).f0) ((rd_T39 x353004 x6).f1) ((rd_T39 x353004 x6).f2) ((rd_T39 x353004 x6).f3) ((rd_T39 x353004 x6).f4) (wrap64 (x1 - 1))).bind fun t354 => (truffleref14_count.l0 k x1 (wrap64 (x5 + t354)) (wrap64 (x6 + 1)) x353000 x353001 x353002 x353003 x353004)) else (none)) else (some x5)) else (some x5)
def truffleref14_count.f : Nat → Int → ByteArray → Int → Int → List (S39) → Int → Option (Int)
 | 0, _, _, _, _, _, _ => none
 | k + 1, a0_0, a0_1, a0_2, a0_3, l0_4, a1 => if a1 ≤ 0 then (truffleref14_count.j0 k a1 true a0_0 a0_1 a0_2 a0_3 l0_4) else (truffleref14_count.j0 k a1 (decide ((l0_4.length : Int) > 2000)) a0_0 a0_1 a0_2 a0_3 l0_4)
end
set_option maxHeartbeats 8000000 in
set_option maxRecDepth 100000 in
theorem truffleref14_count.calls (k : Nat) : ∀ (a0_0 : Int) (a0_1 : ByteArray) (a0_2 : Int) (a0_3 : Int) (A0_4 : Option Addr) (c0_4 : Nat) (l0_4 : List (S39)) (a1 : Int) (r : Int) (w : World) (hr0_4 : Kd.C k39 w A0_4 l0_4.length l0_4) (hc0_4 : l0_4.length ≤ c0_4) (h : truffleref14_count.f k a0_0 a0_1 a0_2 a0_3 l0_4 a1 = some r),
  Calls Tryd.prog 47 #[.agg #[.int .i64 a0_0, .string a0_1, .int .i64 a0_2, .int .i64 a0_3, .slice A0_4 l0_4.length c0_4], .int .i64 a1] w fun e w' => e = .returned (.int .i64 r) ∧ Below w.heap.size w w' := by
 induction k using Nat.strongRecOn with
 | _ k ih =>
 intro a0_0 a0_1 a0_2 a0_3 A0_4 c0_4 l0_4 a1 r w hr0_4 hc0_4 h
 cases k with
 | zero => exact absurd h (by simp [truffleref14_count.f])
 | succ k =>
 simp only [truffleref14_count.f] at h
 have hu39 := Tryd.underlying39
 have HR0_4 := Y0 hr0_4
 have HC0_4 := Y0 hc0_4
 clear hr0_4 hc0_4
 have HB := Y0 (Below.refl w.heap.size w)
 have H : (if a1 ≤ 0 then (truffleref14_count.j0 k a1 true a0_0 a0_1 a0_2 a0_3 l0_4) else (truffleref14_count.j0 k a1 (decide ((l0_4.length : Int) > 2000)) a0_0 a0_1 a0_2 a0_3 l0_4)) = some r := h
 clear h
 have HC3 := Y0 H
 clear H
 go_enter Tryd.func47, Tryd.ntmps47
 go_upto_region 1 with (first | ((with_reducible refine gate_dst (N := 2) rfl ?_); (try (refine gate_guard (by rfl) ?_; dsimp only)); refine box_event ?hg (N := 2) ?hd (cs := #[.int .i64 a0_0, .string a0_1, .int .i64 a0_2, .int .i64 a0_3, .slice A0_4 l0_4.length c0_4]) (t := 39) ?hr ?_; (case hd => rfl); (case hg => rfl); (case hr => first | (go_simp; done) | (go_simp; rfl)); intro gb352 hg w4 hbox hb; have n0_ := Y0 (below_step (by repeat (with_reducible first | exact HB.out | apply Y3 | apply Y1 | apply Y2)) hb); have n1_ := Y0 (hbox); have n2_ := Y0 ((by rw [hg]; exact (below_size (by repeat (with_reducible first | exact HB.out | apply Y3 | apply Y1 | apply Y2))) : w.heap.size ≤ gb352)); have n3_ := Y0 ((by rw [hg]; exact (below_size (by repeat (with_reducible first | exact HB.out | apply Y3 | apply Y1 | apply Y2))) : w.heap.size ≤ gb352)); clear HB; have HB := n0_; have BK352 := n1_; have GW352 := n2_; have GE352 := n3_; clear n0_ n1_ n2_ n3_; clear hb hbox hg))
 (try simp only [Act.put, Y14, Y15, Y16])
 go_cut [14] (fun v14 wc => ∃ (kq : Nat) (x14_2 : Bool), v14 = .bool x14_2 ∧ Aside0 (truffleref14_count.j0 kq a1 x14_2 a0_0 a0_1 a0_2 a0_3 l0_4 = some r) ∧ Aside0 (kq ≤ k) ∧ Aside0 (wc.heap[gb352]? = some (.cells #[.int .i64 a0_0, .string a0_1, .int .i64 a0_2, .int .i64 a0_3, (.slice A0_4 l0_4.length c0_4)] 39 (0, 0))) ∧ Aside0 (Below w.heap.size w wc))
 case first =>
  have H := HC3.out
  clear HC3
  by_cases c5 : a1 ≤ 0
  ·rw [if_pos c5] at H
   have c5b0 : decide (a1 ≤ 0) = true := decide_eq_true c5
   clear c5
   (first | rw [c5b0] | (simp only [i64_w]; rw [c5b0]) | skip)
   have H' := Y0 H
   clear H
   go_wp2
   go_meet
   case rel => exact ⟨_, (true), (by first | rfl | (simp; done) | (simp [*]; done)), H', ⟨by first | omega | exact Nat.le_refl _⟩, ⟨by (with_reducible repeat first | apply Y11 | apply Y13 | apply Y12); exact BK352.out⟩, ⟨by repeat (with_reducible first | exact HB.out | apply Y3 | apply Y1 | apply Y2 | refine Y4 ?_ GE352.out)⟩⟩
  rw [if_neg c5] at H
  have c5b0 : decide (a1 ≤ 0) = false := decide_eq_false c5
  clear c5
  (first | rw [c5b0] | (simp only [i64_w]; rw [c5b0]) | skip)
  have H' := Y0 H
  clear H
  have ⟨hcz6_0, hcz6_1, hcz6_2, hcz6_3, hcz6_4, hfz6_0, hfz6_1, hfz6_2, hfz6_3, hfz6_4⟩ := sq_box5 BK352.out
  go_wp2
  go_meet
  case rel => exact ⟨_, (decide ((l0_4.length : Int) > 2000)), (by first | rfl | (simp; done) | (simp [*]; done)), H', ⟨by first | omega | exact Nat.le_refl _⟩, ⟨by (with_reducible repeat first | apply Y11 | apply Y13 | apply Y12); exact BK352.out⟩, ⟨by repeat (with_reducible first | exact HB.out | apply Y3 | apply Y1 | apply Y2 | refine Y4 ?_ GE352.out)⟩⟩
 case rest =>
  clear HC3
  obtain ⟨kq, x14_2, rfl, HA, HJ2, BK352, HB⟩ := hcut
  cases kq with
  | zero => exact absurd HA.out (by simp [truffleref14_count.j0])
  | succ kj2 =>
   have H := HA.out
   clear HA
   simp only [truffleref14_count.j0] at H
   by_cases c7 : x14_2 = true
   ·subst c7
    rw [if_pos rfl] at H
    obtain rfl := Option.some.inj H
    go_wp2
    go_ret
    exact ⟨by first | rfl | (simp [] <;> rfl) | (simp [*] <;> rfl), by repeat (with_reducible first | exact HB.out | apply Y3 | apply Y1 | apply Y2 | refine Y4 ?_ GE352.out)⟩
   replace c7 := Bool.eq_false_iff.mpr c7
   subst c7
   rw [if_neg (show ¬ (false = true) by decide)] at H
   have H' := Y0 H
   clear H
   have ⟨hcz8_0, hcz8_1, hcz8_2, hcz8_3, hcz8_4, hfz8_0, hfz8_1, hfz8_2, hfz8_3, hfz8_4⟩ := sq_box5 BK352.out
   go_wp2
   go_loopg [5, 6] kj2 (fun kq v5 v6 w' => ∃ (x5_2 : Int) (x6_2 : Int), v5 = .int .i64 x5_2 ∧ v6 = .int .i64 x6_2 ∧ Aside0 (truffleref14_count.l0 kq a1 x5_2 x6_2 a0_0 a0_1 a0_2 a0_3 l0_4 = some r) ∧ Aside0 (kq ≤ kj2) ∧ Aside0 (w'.heap[gb352]? = some (.cells #[.int .i64 a0_0, .string a0_1, .int .i64 a0_2, .int .i64 a0_3, (.slice A0_4 l0_4.length c0_4)] 39 (0, 0))) ∧ Aside0 (Below w.heap.size w w'))
   case atStart => exact ⟨(wrap64 (1 + (wrap64 ((a0_1.size : Int) / 100)))), (0), (by first | rfl | (simp; done) | (simp [*]; done)), (by first | rfl | (simp; done) | (simp [*]; done)), H', ⟨Nat.le_refl _⟩, ⟨by (with_reducible repeat first | apply Y11 | apply Y13 | apply Y12); exact BK352.out⟩, ⟨by repeat (with_reducible first | exact HB.out | apply Y3 | apply Y1 | apply Y2 | refine Y4 ?_ GE352.out)⟩⟩
   case round =>
    clear H'
    obtain ⟨x5_2, x6_2, rfl, rfl, HA, HK2, BK352, HB⟩ := hrel
    cases gk with
    | zero => exact absurd HA.out (by simp [truffleref14_count.l0])
    | succ k2 =>
     have H := HA.out
     clear HA
     simp only [truffleref14_count.l0] at H
     by_cases c9 : x6_2 < (l0_4.length : Int)
     rotate_left
     ·rw [if_neg c9] at H
      have c9b0 : decide (x6_2 < (l0_4.length : Int)) = false := decide_eq_false c9
      clear c9
      obtain rfl := Option.some.inj H
      have ⟨hcz16_0, hcz16_1, hcz16_2, hcz16_3, hcz16_4, hfz16_0, hfz16_1, hfz16_2, hfz16_3, hfz16_4⟩ := sq_box5 BK352.out
      go_wp2
      go_ret
      exact ⟨by first | rfl | (simp [] <;> rfl) | (simp [*] <;> rfl), by repeat (with_reducible first | exact HB.out | apply Y3 | apply Y1 | apply Y2 | refine Y4 ?_ GE352.out)⟩
     rw [if_pos c9] at H
     have c9b0 : decide (x6_2 < (l0_4.length : Int)) = true := decide_eq_true c9
     clear c9
     by_cases c10 : x5_2 ≤ 2000
     rotate_left
     ·rw [if_neg c10] at H
      have c10b0 : decide (x5_2 ≤ 2000) = false := decide_eq_false c10
      clear c10
      obtain rfl := Option.some.inj H
      have ⟨hcz15_0, hcz15_1, hcz15_2, hcz15_3, hcz15_4, hfz15_0, hfz15_1, hfz15_2, hfz15_3, hfz15_4⟩ := sq_box5 BK352.out
      go_wp2
      go_ret
      exact ⟨by first | rfl | (simp [] <;> rfl) | (simp [*] <;> rfl), by repeat (with_reducible first | exact HB.out | apply Y3 | apply Y1 | apply Y2 | refine Y4 ?_ GE352.out)⟩
     rw [if_pos c10] at H
     have c10b0 : decide (x5_2 ≤ 2000) = true := decide_eq_true c10
     clear c10
     by_cases c11 : 0 ≤ x6_2
     rotate_left
     ·rw [if_neg c11] at H
      exact absurd H (by simp)
     rw [if_pos c11] at H
     have c11b0 : decide (0 ≤ x6_2) = true := decide_eq_true c11
     clear c11
     replace H := Y17.mp H
     obtain ⟨t354, A120, H⟩ := H
     try dsimp only at H
     have A12 := Y0 A120
     clear A120
     have H' := Y0 H
     clear H
     have ⟨hcz13_0, hcz13_1, hcz13_2, hcz13_3, hcz13_4, hfz13_0, hfz13_1, hfz13_2, hfz13_3, hfz13_4⟩ := sq_box5 BK352.out
     have p353 : 0 ≤ (x6_2 : Int) := of_decide_eq_true (by first | (with_reducible assumption) | assumption)
     have q353 : x6_2 < (l0_4.length : Int) := of_decide_eq_true (by first | (with_reducible assumption) | assumption)
     obtain ⟨ad353, A353_4, c353_4, e353, hx353_0, hx353_1, hx353_2, hx353_3, hx353_4, hl353_4, hi353_4⟩ := at_T39 HR0_4.out x6_2 p353 q353
     cases e353
     replace hx353_0 := (HB.out.cell (World.block_lt_of_cell? w _ hx353_0)).trans hx353_0
     replace hx353_1 := (HB.out.cell (World.block_lt_of_cell? w _ hx353_1)).trans hx353_1
     replace hx353_2 := (HB.out.cell (World.block_lt_of_cell? w _ hx353_2)).trans hx353_2
     replace hx353_3 := (HB.out.cell (World.block_lt_of_cell? w _ hx353_3)).trans hx353_3
     replace hx353_4 := (HB.out.cell (World.block_lt_of_cell? w _ hx353_4)).trans hx353_4
     have HR353_4 := Y0 hi353_4
     have HC353_4 := Y0 hl353_4
     clear hi353_4 hl353_4
     replace p353 := eq_true p353
     replace q353 := eq_true q353
     go_wp2_with (first | ((with_reducible refine gate_callee (f := 47) rfl ?_); refine goesL_ (some 39) rfl rfl Tryd.func47 (by kernel_rfl) rfl #[.agg #[.int .i64 ((rd_T39 l0_4 x6_2).f0), .string ((rd_T39 l0_4 x6_2).f1), .int .i64 ((rd_T39 l0_4 x6_2).f2), .int .i64 ((rd_T39 l0_4 x6_2).f3), .slice A353_4 ((rd_T39 l0_4 x6_2).f4).length c353_4], .int .i64 (wrap64 (a1 - 1))] rfl (by (try simp only [List.map_toArray, List.map_cons, List.map_nil]); first | done | rfl | (simp only [List.length_drop, List.length_take]; rfl)) ?_; (with_reducible refine (ih k2 (by have := HJ2.out; have := HK2.out; omega) ((rd_T39 l0_4 x6_2).f0) ((rd_T39 l0_4 x6_2).f1) ((rd_T39 l0_4 x6_2).f2) ((rd_T39 l0_4 x6_2).f3) _ _ ((rd_T39 l0_4 x6_2).f4) (wrap64 (a1 - 1)) t354 _ ?side1 ?side2 A12.out).mono ?_); (case side1 => repeat (first | exact (Kd.C_below HR353_4.out HB.out) | (with_reducible refine Kd.C_alloc ?_ _) | (with_reducible refine Kd.C_drewN ?_ _) | (with_reducible refine Kd.C_drew ?_))); (case side2 => exact HC353_4.out); rintro e w14 ⟨rfl, hb⟩; refine ⟨_, rfl, ?_⟩; have n0_ := Y0 (blk_below (g := gb352) (o := .cells #[.int .i64 a0_0, .string a0_1, .int .i64 a0_2, .int .i64 a0_3, .slice (some ad353) l0_4.length c0_4] 39 (0, 0)) (by (with_reducible repeat first | apply Y11 | apply Y13 | apply Y12); exact BK352.out) hb); have n1_ := Y0 (below_step (by repeat (with_reducible first | exact HB.out | apply Y3 | apply Y1 | apply Y2 | refine Y4 ?_ GE352.out)) hb); clear BK352; clear HB; have BK352 := n0_; have HB := n1_; clear n0_ n1_; (try clear hb); (try clear hb2); (try clear hk); (try clear hi)))
     go_roundg k2
     case measure => have := HJ2.out; have := HK2.out; omega
     case rel => exact ⟨(wrap64 (x5_2 + t354)), (wrap64 (x6_2 + 1)), (by first | rfl | (simp; done) | (simp [*]; done)), (by first | rfl | (simp; done) | (simp [*]; done)), H', ⟨by have := HJ2.out; have := HK2.out; omega⟩, ⟨by (with_reducible repeat first | apply Y11 | apply Y13 | apply Y12); exact BK352.out⟩, ⟨by repeat (with_reducible first | exact HB.out | apply Y3 | apply Y1 | apply Y2 | refine Y4 ?_ GE352.out)⟩⟩
def truffleref14_Few.f (k : Nat) (a0_0 : Int) (a0_1 : ByteArray) (a0_2 : Int) (a0_3 : Int) (l0_4 : List (S39)) : Option (Bool) := (truffleref14_count.f k a0_0 a0_1 a0_2 a0_3 l0_4 40).bind fun t356 => (some (decide (t356 ≤ 1000)))
set_option maxHeartbeats 8000000 in
set_option maxRecDepth 100000 in
theorem truffleref14_Few.calls (k : Nat) (a0_0 : Int) (a0_1 : ByteArray) (a0_2 : Int) (a0_3 : Int) (A0_4 : Option Addr) (c0_4 : Nat) (l0_4 : List (S39)) (r : Bool) (w : World) (hr0_4 : Kd.C k39 w A0_4 l0_4.length l0_4) (hc0_4 : l0_4.length ≤ c0_4) (h : truffleref14_Few.f k a0_0 a0_1 a0_2 a0_3 l0_4 = some r) :
  Calls Tryd.prog 26 #[.agg #[.int .i64 a0_0, .string a0_1, .int .i64 a0_2, .int .i64 a0_3, .slice A0_4 l0_4.length c0_4]] w fun e w' => e = .returned (.bool r) ∧ Below w.heap.size w w' := by
 have hu39 := Tryd.underlying39
 have HR0_4 := Y0 hr0_4
 have HC0_4 := Y0 hc0_4
 clear hr0_4 hc0_4
 have HB := Y0 (Below.refl w.heap.size w)
 have H : ((truffleref14_count.f k a0_0 a0_1 a0_2 a0_3 l0_4 40).bind fun t356 => (some (decide (t356 ≤ 1000)))) = some r := h
 clear h
 replace H := Y17.mp H
 obtain ⟨t356, A20, H⟩ := H
 try dsimp only at H
 have A2 := Y0 A20
 clear A20
 obtain rfl := Option.some.inj H
 go_enter Tryd.func26, Tryd.ntmps26
 go_wp2_with (first | ((with_reducible refine gate_dst (N := 1) rfl ?_); refine box_event ?hg (N := 1) ?hd (cs := #[.int .i64 a0_0, .string a0_1, .int .i64 a0_2, .int .i64 a0_3, .slice A0_4 l0_4.length c0_4]) (t := 39) ?hr ?_; (case hd => rfl); (case hg => rfl); (case hr => first | (go_simp; done) | (go_simp; rfl)); intro gb355 hg w3 hbox hb; have n0_ := Y0 (below_step (by repeat (with_reducible first | exact HB.out | apply Y3 | apply Y1 | apply Y2)) hb); have n1_ := Y0 (hbox); have n2_ := Y0 ((by rw [hg]; exact (below_size (by repeat (with_reducible first | exact HB.out | apply Y3 | apply Y1 | apply Y2))) : w.heap.size ≤ gb355)); have n3_ := Y0 ((by rw [hg]; exact (below_size (by repeat (with_reducible first | exact HB.out | apply Y3 | apply Y1 | apply Y2))) : w.heap.size ≤ gb355)); clear HB; have HB := n0_; have BK355 := n1_; have GW355 := n2_; have GE355 := n3_; clear n0_ n1_ n2_ n3_; clear hb hbox hg; have ⟨hcz4_0, hcz4_1, hcz4_2, hcz4_3, hcz4_4, hfz4_0, hfz4_1, hfz4_2, hfz4_3, hfz4_4⟩ := sq_box5 BK355.out) | ((with_reducible refine gate_callee (f := 47) rfl ?_); refine goesL_ (some 4) rfl rfl Tryd.func47 (by kernel_rfl) rfl #[.agg #[.int .i64 a0_0, .string a0_1, .int .i64 a0_2, .int .i64 a0_3, .slice A0_4 l0_4.length c0_4], .int .i64 40] rfl (by (try simp only [List.map_toArray, List.map_cons, List.map_nil]); first | done | rfl | (simp only [List.length_drop, List.length_take]; rfl)) ?_; (with_reducible refine (truffleref14_count.calls k a0_0 a0_1 a0_2 a0_3 _ _ l0_4 40 t356 _ ?side1 ?side2 A2.out).mono ?_); (case side1 => repeat (first | exact (Kd.C_below HR0_4.out HB.out) | (with_reducible refine Kd.C_alloc ?_ _) | (with_reducible refine Kd.C_drewN ?_ _) | (with_reducible refine Kd.C_drew ?_))); (case side2 => exact HC0_4.out); rintro e w5 ⟨rfl, hb⟩; refine ⟨_, rfl, ?_⟩; have n0_ := Y0 (blk_below (g := gb355) (o := .cells #[.int .i64 a0_0, .string a0_1, .int .i64 a0_2, .int .i64 a0_3, .slice A0_4 l0_4.length c0_4] 39 (0, 0)) (by (with_reducible repeat first | apply Y11 | apply Y13 | apply Y12); exact BK355.out) hb); have n1_ := Y0 (below_step (by repeat (with_reducible first | exact HB.out | apply Y3 | apply Y1 | apply Y2 | refine Y4 ?_ GE355.out)) hb); clear BK355; clear HB; have BK355 := n0_; have HB := n1_; clear n0_ n1_; (try clear hb); (try clear hb2); (try clear hk); (try clear hi)))
 go_ret
 exact ⟨by first | rfl | (simp [] <;> rfl) | (simp [*] <;> rfl), by repeat (with_reducible first | exact HB.out | apply Y3 | apply Y1 | apply Y2 | refine Y4 ?_ GE355.out)⟩
mutual
def truffleref14_Same.j0 : Nat → Bool → Bool → Int → ByteArray → Int → Int → List (S39) → Int → ByteArray → Int → Int → List (S39) → Option (Bool)
 | 0, _, _, _, _, _, _, _, _, _, _, _, _ => none
 | k + 1, x2, x46, x397000, x397001, x397002, x397003, x397004, x398000, x398001, x398002, x398003, x398004 => if x46 = true then (some false) else (truffleref14_Same.l0 k x2 0 x397000 x397001 x397002 x397003 x397004 x398000 x398001 x398002 x398003 x398004)
def truffleref14_Same.l0 : Nat → Bool → Int → Int → ByteArray → Int → Int → List (S39) → Int → ByteArray → Int → Int → List (S39) → Option (Bool)
 | 0, _, _, _, _, _, _, _, _, _, _, _, _ => none
 | k + 1, x2, x7, x397000, x397001, x397002, x397003, x397004, x398000, x398001, x398002, x398003, x398004 => if x7 < (x397004.length : Int) then (if 0 ≤ x7 then (if x7 < (x398004.length : Int) then ((truffleref14_Same.f k ((rd_T39 x397004 x7).f0) ((rd_T39 x397004 x7).f1) ((rd_T39 x397004 x7).f2) ((rd_T39 x397004 x7).f3) ((rd_T39 x397004 x7).f4) ((rd_T39 x398004 x7).f0) ((rd_T39 x398004 x7).f1) ((rd_T39 x398004 x7).f2) ((rd_T39 x398004 x7).f3) ((rd_T39 x398004 x7).f4) x2).bind fun t400 => (if t400 = true then (truffleref14_Same.l0 k x2 (wrap64 (x7 + 1)) x397000 x397001 x397002 x397003 x397004 x398000 x398001 x398002 x398003 x398004) else (some false))) else (none)) else (none)) else (some true)
def truffleref14_Same.f : Nat → Int → ByteArray → Int → Int → List (S39) → Int → ByteArray → Int → Int → List (S39) → Bool → Option (Bool)
 | 0, _, _, _, _, _, _, _, _, _, _, _ => none
 | k + 1, a0_0, a0_1, a0_2, a0_3, l0_4, a1_0, a1_1, a1_2, a1_3, l1_4, a2 => if a0_0 = a1_0 then (if a0_1.toList = a1_1.toList then (if a0_2 = a1_2 then (if (l0_4.length : Int) = (l1_4.length : Int) then (if a2 = true then (truffleref14_Same.j0 k a2 (a0_3 != a1_3) a0_0 a0_1 a0_2 a0_3 l0_4 a1_0 a1_1 a1_2 a1_3 l1_4) else (truffleref14_Same.j0 k a2 false a0_0 a0_1 a0_2 a0_3 l0_4 a1_0 a1_1 a1_2 a1_3 l1_4)) else (truffleref14_Same.j0 k a2 true a0_0 a0_1 a0_2 a0_3 l0_4 a1_0 a1_1 a1_2 a1_3 l1_4)) else (truffleref14_Same.j0 k a2 true a0_0 a0_1 a0_2 a0_3 l0_4 a1_0 a1_1 a1_2 a1_3 l1_4)) else (truffleref14_Same.j0 k a2 true a0_0 a0_1 a0_2 a0_3 l0_4 a1_0 a1_1 a1_2 a1_3 l1_4)) else (truffleref14_Same.j0 k a2 true a0_0 a0_1 a0_2 a0_3 l0_4 a1_0 a1_1 a1_2 a1_3 l1_4)
end
def truffleref14_Same.T6 : Bool × List (List Nat × List Nat) := (true, [([], []), ([0], [0]), ([], []), ([1, 2], [1, 2]), ([3], [3]), ([], []), ([5], [5]), ([], []), ([6, 7], [6, 7]), ([8], [8]), ([], []), ([4, 9, 10], [4, 9, 10]), ([11, 11, 0, 1, 2, 3, 4, 5, 6, 7, 8, 9, 10, 11], [11])])
def truffleref14_Same.B6 : List Nat := [0, 1, 0, 7, 15, 0, 32, 0, 224, 480, 0, 2047, 4095]
theorem truffleref14_Same.tab6 : rtab .any (opsOf Tryd.f28 6) = truffleref14_Same.T6 := by kernel_rfl
theorem truffleref14_Same.bits6 : waitsOk truffleref14_Same.T6.2 truffleref14_Same.B6 = true := by kernel_rfl
set_option maxHeartbeats 8000000 in
set_option maxRecDepth 100000 in
theorem truffleref14_Same.calls (k : Nat) : ∀ (a0_0 : Int) (a0_1 : ByteArray) (a0_2 : Int) (a0_3 : Int) (A0_4 : Option Addr) (c0_4 : Nat) (l0_4 : List (S39)) (a1_0 : Int) (a1_1 : ByteArray) (a1_2 : Int) (a1_3 : Int) (A1_4 : Option Addr) (c1_4 : Nat) (l1_4 : List (S39)) (a2 : Bool) (r : Bool) (w : World) (hr0_4 : Kd.C k39 w A0_4 l0_4.length l0_4) (hc0_4 : l0_4.length ≤ c0_4) (hr1_4 : Kd.C k39 w A1_4 l1_4.length l1_4) (hc1_4 : l1_4.length ≤ c1_4) (h : truffleref14_Same.f k a0_0 a0_1 a0_2 a0_3 l0_4 a1_0 a1_1 a1_2 a1_3 l1_4 a2 = some r),
  Calls Tryd.prog 28 #[.agg #[.int .i64 a0_0, .string a0_1, .int .i64 a0_2, .int .i64 a0_3, .slice A0_4 l0_4.length c0_4], .agg #[.int .i64 a1_0, .string a1_1, .int .i64 a1_2, .int .i64 a1_3, .slice A1_4 l1_4.length c1_4], .bool a2] w fun e w' => e = .returned (.bool r) ∧ Below w.heap.size w w' := by
 induction k using Nat.strongRecOn with
 | _ k ih =>
 intro a0_0 a0_1 a0_2 a0_3 A0_4 c0_4 l0_4 a1_0 a1_1 a1_2 a1_3 A1_4 c1_4 l1_4 a2 r w hr0_4 hc0_4 hr1_4 hc1_4 h
 cases k with
 | zero => exact absurd h (by simp [truffleref14_Same.f])
 | succ k =>
 simp only [truffleref14_Same.f] at h
 have hu39 := Tryd.underlying39
 have HR0_4 := Y0 hr0_4
 have HC0_4 := Y0 hc0_4
 clear hr0_4 hc0_4
 have HR1_4 := Y0 hr1_4
 have HC1_4 := Y0 hc1_4
 clear hr1_4 hc1_4
 have HB := Y0 (Below.refl w.heap.size w)
 have H : (if a0_0 = a1_0 then (if a0_1.toList = a1_1.toList then (if a0_2 = a1_2 then (if (l0_4.length : Int) = (l1_4.length : Int) then (if a2 = true then (truffleref14_Same.j0 k a2 (a0_3 != a1_3) a0_0 a0_1 a0_2 a0_3 l0_4 a1_0 a1_1 a1_2 a1_3 l1_4) else (truffleref14_Same.j0 k a2 false a0_0 a0_1 a0_2 a0_3 l0_4 a1_0 a1_1 a1_2 a1_3 l1_4)) else (truffleref14_Same.j0 k a2 true a0_0 a0_1 a0_2 a0_3 l0_4 a1_0 a1_1 a1_2 a1_3 l1_4)) else (truffleref14_Same.j0 k a2 true a0_0 a0_1 a0_2 a0_3 l0_4 a1_0 a1_1 a1_2 a1_3 l1_4)) else (truffleref14_Same.j0 k a2 true a0_0 a0_1 a0_2 a0_3 l0_4 a1_0 a1_1 a1_2 a1_3 l1_4)) else (truffleref14_Same.j0 k a2 true a0_0 a0_1 a0_2 a0_3 l0_4 a1_0 a1_1 a1_2 a1_3 l1_4)) = some r := h
 clear h
 have HC4 := Y0 H
 clear H
 go_enter Tryd.func28, Tryd.ntmps28
 go_upto_region 1 with (first | ((with_reducible refine gate_dst (N := 3) rfl ?_); (try (refine gate_guard (by rfl) ?_; dsimp only)); refine box_event ?hg (N := 3) ?hd (cs := #[.int .i64 a0_0, .string a0_1, .int .i64 a0_2, .int .i64 a0_3, .slice A0_4 l0_4.length c0_4]) (t := 39) ?hr ?_; (case hd => rfl); (case hg => rfl); (case hr => first | (go_simp; done) | (go_simp; rfl)); intro gb396 hg w5 hbox hb; have n0_ := Y0 (below_step (by repeat (with_reducible first | exact HB.out | apply Y3 | apply Y1 | apply Y2)) hb); have n1_ := Y0 (hbox); have n2_ := Y0 ((by rw [hg]; exact (below_size (by repeat (with_reducible first | exact HB.out | apply Y3 | apply Y1 | apply Y2))) : w.heap.size ≤ gb396)); have n3_ := Y0 ((by rw [hg]; exact (below_size (by repeat (with_reducible first | exact HB.out | apply Y3 | apply Y1 | apply Y2))) : w.heap.size ≤ gb396)); clear HB; have HB := n0_; have BK396 := n1_; have GW396 := n2_; have GE396 := n3_; clear n0_ n1_ n2_ n3_; clear hb hbox hg) | ((with_reducible refine gate_dst (N := 4) rfl ?_); (try (refine gate_guard (by rfl) ?_; dsimp only)); refine box_event ?hg (N := 4) ?hd (cs := #[.int .i64 a1_0, .string a1_1, .int .i64 a1_2, .int .i64 a1_3, .slice A1_4 l1_4.length c1_4]) (t := 39) ?hr ?_; (case hd => rfl); (case hg => rfl); (case hr => first | (go_simp; done) | (go_simp; rfl)); intro gb397 hg w6 hbox hb; have n0_ := Y0 (blk_below (g := gb396) (o := .cells #[.int .i64 a0_0, .string a0_1, .int .i64 a0_2, .int .i64 a0_3, .slice A0_4 l0_4.length c0_4] 39 (0, 0)) (by (with_reducible repeat first | apply Y11 | apply Y13 | apply Y12); exact BK396.out) hb); have n1_ := Y0 (below_step (by repeat (with_reducible first | exact HB.out | apply Y3 | apply Y1 | apply Y2 | refine Y4 ?_ GE396.out)) hb); have n2_ := Y0 (hbox); have n3_ := Y0 ((by rw [hg]; exact (below_size (by repeat (with_reducible first | exact HB.out | apply Y3 | apply Y1 | apply Y2 | refine Y4 ?_ GE396.out))) : w.heap.size ≤ gb397)); have n4_ := Y0 ((by rw [hg]; exact (below_size (by repeat (with_reducible first | exact HB.out | apply Y3 | apply Y1 | apply Y2 | refine Y4 ?_ GE396.out))) : w.heap.size ≤ gb397)); have n5_ := Y0 ((by rw [hg]; exact Nat.ne_of_lt (blk_lt (g := gb396) (o := .cells #[.int .i64 a0_0, .string a0_1, .int .i64 a0_2, .int .i64 a0_3, .slice A0_4 l0_4.length c0_4] 39 (0, 0)) (by (with_reducible repeat first | apply Y11 | apply Y13 | apply Y12); exact BK396.out)) : gb396 ≠ gb397)); have n6_ := Y0 ((by rw [hg]; exact Nat.ne_of_gt (blk_lt (g := gb396) (o := .cells #[.int .i64 a0_0, .string a0_1, .int .i64 a0_2, .int .i64 a0_3, .slice A0_4 l0_4.length c0_4] 39 (0, 0)) (by (with_reducible repeat first | apply Y11 | apply Y13 | apply Y12); exact BK396.out)) : gb397 ≠ gb396)); clear BK396; clear HB; have BK396 := n0_; have HB := n1_; have BK397 := n2_; have GW397 := n3_; have GE397 := n4_; have NB396_397 := n5_; have NB397_396 := n6_; clear n0_ n1_ n2_ n3_ n4_ n5_ n6_; clear hb hbox hg))
 (try simp only [Act.put, Y14, Y15, Y16])
 go_cut [46] (fun v46 wc => ∃ (kq : Nat) (x46_3 : Bool), v46 = .bool x46_3 ∧ Aside0 (truffleref14_Same.j0 kq a2 x46_3 a0_0 a0_1 a0_2 a0_3 l0_4 a1_0 a1_1 a1_2 a1_3 l1_4 = some r) ∧ Aside0 (kq ≤ k) ∧ Aside0 (wc.heap[gb396]? = some (.cells #[.int .i64 a0_0, .string a0_1, .int .i64 a0_2, .int .i64 a0_3, (.slice A0_4 l0_4.length c0_4)] 39 (0, 0))) ∧ Aside0 (wc.heap[gb397]? = some (.cells #[.int .i64 a1_0, .string a1_1, .int .i64 a1_2, .int .i64 a1_3, (.slice A1_4 l1_4.length c1_4)] 39 (0, 0))) ∧ Aside0 (Below w.heap.size w wc))
 case first =>
  have H := HC4.out
  clear HC4
  by_cases c7 : a0_0 = a1_0
  rotate_left
  ·rw [if_neg c7] at H
   have c7b0 : (a0_0 == a1_0) = false := beq_eq_false_iff_ne.mpr c7
   have c7b1 : (a0_0 != a1_0) = true := bne_iff_ne.mpr c7
   (first | rw [c7b0] | (simp only [i64_w]; rw [c7b0]) | skip)
   have H' := Y0 H
   clear H
   have hnb27 := NB396_397.out
   have hnc27 := NB397_396.out
   have ⟨hcz28_0, hcz28_1, hcz28_2, hcz28_3, hcz28_4, hfz28_0, hfz28_1, hfz28_2, hfz28_3, hfz28_4⟩ := sq_box5 BK396.out
   have ⟨hcz29_0, hcz29_1, hcz29_2, hcz29_3, hcz29_4, hfz29_0, hfz29_1, hfz29_2, hfz29_3, hfz29_4⟩ := sq_box5 BK397.out
   go_wp2
   go_meet
   case rel => exact ⟨_, (true), (by first | rfl | (simp; done) | (simp [*]; done)), H', ⟨by first | omega | exact Nat.le_refl _⟩, ⟨by (with_reducible repeat first | apply Y11 | apply Y13 | apply Y12); exact BK396.out⟩, ⟨by (with_reducible repeat first | apply Y11 | apply Y13 | apply Y12); exact BK397.out⟩, ⟨by repeat (with_reducible first | exact HB.out | apply Y3 | apply Y1 | apply Y2 | refine Y4 ?_ GE396.out | refine Y4 ?_ GE397.out)⟩⟩
  rw [if_pos c7] at H
  have c7b0 : (a0_0 == a1_0) = true := beq_iff_eq.mpr c7
  have c7b1 : (a0_0 != a1_0) = false := bne_eq_false_iff_eq.mpr c7
  clear c7
  (first | rw [c7b0] | (simp only [i64_w]; rw [c7b0]) | skip)
  by_cases c8 : a0_1.toList = a1_1.toList
  rotate_left
  ·rw [if_neg c8] at H
   have c8b0 : (a0_1.toList == a1_1.toList) = false := beq_eq_false_iff_ne.mpr c8
   have c8b1 : (a0_1.toList != a1_1.toList) = true := bne_iff_ne.mpr c8
   have H' := Y0 H
   clear H
   have hnb24 := NB396_397.out
   have hnc24 := NB397_396.out
   have ⟨hcz25_0, hcz25_1, hcz25_2, hcz25_3, hcz25_4, hfz25_0, hfz25_1, hfz25_2, hfz25_3, hfz25_4⟩ := sq_box5 BK396.out
   have ⟨hcz26_0, hcz26_1, hcz26_2, hcz26_3, hcz26_4, hfz26_0, hfz26_1, hfz26_2, hfz26_3, hfz26_4⟩ := sq_box5 BK397.out
   go_wp2
   go_meet
   case rel => exact ⟨_, (true), (by first | rfl | (simp; done) | (simp [*]; done)), H', ⟨by first | omega | exact Nat.le_refl _⟩, ⟨by (with_reducible repeat first | apply Y11 | apply Y13 | apply Y12); exact BK396.out⟩, ⟨by (with_reducible repeat first | apply Y11 | apply Y13 | apply Y12); exact BK397.out⟩, ⟨by repeat (with_reducible first | exact HB.out | apply Y3 | apply Y1 | apply Y2 | refine Y4 ?_ GE396.out | refine Y4 ?_ GE397.out)⟩⟩
  rw [if_pos c8] at H
  have c8b0 : (a0_1.toList == a1_1.toList) = true := beq_iff_eq.mpr c8
  have c8b1 : (a0_1.toList != a1_1.toList) = false := bne_eq_false_iff_eq.mpr c8
  clear c8
  by_cases c9 : a0_2 = a1_2
  rotate_left
  ·rw [if_neg c9] at H
   have c9b0 : (a0_2 == a1_2) = false := beq_eq_false_iff_ne.mpr c9
   have c9b1 : (a0_2 != a1_2) = true := bne_iff_ne.mpr c9
   have H' := Y0 H
   clear H
   have hnb21 := NB396_397.out
   have hnc21 := NB397_396.out
   have ⟨hcz22_0, hcz22_1, hcz22_2, hcz22_3, hcz22_4, hfz22_0, hfz22_1, hfz22_2, hfz22_3, hfz22_4⟩ := sq_box5 BK396.out
   have ⟨hcz23_0, hcz23_1, hcz23_2, hcz23_3, hcz23_4, hfz23_0, hfz23_1, hfz23_2, hfz23_3, hfz23_4⟩ := sq_box5 BK397.out
   go_wp2
   go_meet
   case rel => exact ⟨_, (true), (by first | rfl | (simp; done) | (simp [*]; done)), H', ⟨by first | omega | exact Nat.le_refl _⟩, ⟨by (with_reducible repeat first | apply Y11 | apply Y13 | apply Y12); exact BK396.out⟩, ⟨by (with_reducible repeat first | apply Y11 | apply Y13 | apply Y12); exact BK397.out⟩, ⟨by repeat (with_reducible first | exact HB.out | apply Y3 | apply Y1 | apply Y2 | refine Y4 ?_ GE396.out | refine Y4 ?_ GE397.out)⟩⟩
  rw [if_pos c9] at H
  have c9b0 : (a0_2 == a1_2) = true := beq_iff_eq.mpr c9
  have c9b1 : (a0_2 != a1_2) = false := bne_eq_false_iff_eq.mpr c9
  clear c9
  by_cases c10 : (l0_4.length : Int) = (l1_4.length : Int)
  rotate_left
  ·rw [if_neg c10] at H
   have c10b0 : ((l0_4.length : Int) == (l1_4.length : Int)) = false := beq_eq_false_iff_ne.mpr c10
   have c10b1 : ((l0_4.length : Int) != (l1_4.length : Int)) = true := bne_iff_ne.mpr c10
   have c10b2 : (l0_4.length == l1_4.length) = false := by first | simpa using c10 | (simp at c10 ⊢; omega)
   have H' := Y0 H
   clear H
   have hnb18 := NB396_397.out
   have hnc18 := NB397_396.out
   have ⟨hcz19_0, hcz19_1, hcz19_2, hcz19_3, hcz19_4, hfz19_0, hfz19_1, hfz19_2, hfz19_3, hfz19_4⟩ := sq_box5 BK396.out
   have ⟨hcz20_0, hcz20_1, hcz20_2, hcz20_3, hcz20_4, hfz20_0, hfz20_1, hfz20_2, hfz20_3, hfz20_4⟩ := sq_box5 BK397.out
   go_wp2
   go_meet
   case rel => exact ⟨_, (true), (by first | rfl | (simp; done) | (simp [*]; done)), H', ⟨by first | omega | exact Nat.le_refl _⟩, ⟨by (with_reducible repeat first | apply Y11 | apply Y13 | apply Y12); exact BK396.out⟩, ⟨by (with_reducible repeat first | apply Y11 | apply Y13 | apply Y12); exact BK397.out⟩, ⟨by repeat (with_reducible first | exact HB.out | apply Y3 | apply Y1 | apply Y2 | refine Y4 ?_ GE396.out | refine Y4 ?_ GE397.out)⟩⟩
  rw [if_pos c10] at H
  have c10b0 : ((l0_4.length : Int) == (l1_4.length : Int)) = true := beq_iff_eq.mpr c10
  have c10b1 : ((l0_4.length : Int) != (l1_4.length : Int)) = false := bne_eq_false_iff_eq.mpr c10
  have c10b2 : (l0_4.length == l1_4.length) = true := by first | simpa using c10 | (simp at c10 ⊢; omega)
  clear c10
  by_cases c11 : a2 = true
  ·subst c11
   rw [if_pos rfl] at H
   have H' := Y0 H
   clear H
   have hnb12 := NB396_397.out
   have hnc12 := NB397_396.out
   have ⟨hcz13_0, hcz13_1, hcz13_2, hcz13_3, hcz13_4, hfz13_0, hfz13_1, hfz13_2, hfz13_3, hfz13_4⟩ := sq_box5 BK396.out
   have ⟨hcz14_0, hcz14_1, hcz14_2, hcz14_3, hcz14_4, hfz14_0, hfz14_1, hfz14_2, hfz14_3, hfz14_4⟩ := sq_box5 BK397.out
   go_wp2
   go_meet
   case rel => exact ⟨_, ((a0_3 != a1_3)), (by first | rfl | (simp; done) | (simp [*]; done)), H', ⟨by first | omega | exact Nat.le_refl _⟩, ⟨by (with_reducible repeat first | apply Y11 | apply Y13 | apply Y12); exact BK396.out⟩, ⟨by (with_reducible repeat first | apply Y11 | apply Y13 | apply Y12); exact BK397.out⟩, ⟨by repeat (with_reducible first | exact HB.out | apply Y3 | apply Y1 | apply Y2 | refine Y4 ?_ GE396.out | refine Y4 ?_ GE397.out)⟩⟩
  replace c11 := Bool.eq_false_iff.mpr c11
  subst c11
  rw [if_neg (show ¬ (false = true) by decide)] at H
  have H' := Y0 H
  clear H
  have hnb15 := NB396_397.out
  have hnc15 := NB397_396.out
  have ⟨hcz16_0, hcz16_1, hcz16_2, hcz16_3, hcz16_4, hfz16_0, hfz16_1, hfz16_2, hfz16_3, hfz16_4⟩ := sq_box5 BK396.out
  have ⟨hcz17_0, hcz17_1, hcz17_2, hcz17_3, hcz17_4, hfz17_0, hfz17_1, hfz17_2, hfz17_3, hfz17_4⟩ := sq_box5 BK397.out
  go_wp2
  go_meet
  case rel => exact ⟨_, (false), (by first | rfl | (simp; done) | (simp [*]; done)), H', ⟨by first | omega | exact Nat.le_refl _⟩, ⟨by (with_reducible repeat first | apply Y11 | apply Y13 | apply Y12); exact BK396.out⟩, ⟨by (with_reducible repeat first | apply Y11 | apply Y13 | apply Y12); exact BK397.out⟩, ⟨by repeat (with_reducible first | exact HB.out | apply Y3 | apply Y1 | apply Y2 | refine Y4 ?_ GE396.out | refine Y4 ?_ GE397.out)⟩⟩
 case rest =>
  clear HC4
  obtain ⟨kq, x46_3, rfl, HA, HJ3, BK396, BK397, HB⟩ := hcut
  cases kq with
  | zero => exact absurd HA.out (by simp [truffleref14_Same.j0])
  | succ kj3 =>
   have H := HA.out
   clear HA
   simp only [truffleref14_Same.j0] at H
   by_cases c30 : x46_3 = true
   ·subst c30
    rw [if_pos rfl] at H
    obtain rfl := Option.some.inj H
    go_wp2
    go_ret
    exact ⟨by first | rfl | (simp [] <;> rfl) | (simp [*] <;> rfl), by repeat (with_reducible first | exact HB.out | apply Y3 | apply Y1 | apply Y2 | refine Y4 ?_ GE396.out | refine Y4 ?_ GE397.out)⟩
   replace c30 := Bool.eq_false_iff.mpr c30
   subst c30
   rw [if_neg (show ¬ (false = true) by decide)] at H
   have H' := Y0 H
   clear H
   go_wp2
   go_loopg [7] kj3 (fun kq v7 w' => ∃ (x7_2 : Int), v7 = .int .i64 x7_2 ∧ Aside0 (truffleref14_Same.l0 kq a2 x7_2 a0_0 a0_1 a0_2 a0_3 l0_4 a1_0 a1_1 a1_2 a1_3 l1_4 = some r) ∧ Aside0 (kq ≤ kj3) ∧ Aside0 (w'.heap[gb396]? = some (.cells #[.int .i64 a0_0, .string a0_1, .int .i64 a0_2, .int .i64 a0_3, (.slice A0_4 l0_4.length c0_4)] 39 (0, 0))) ∧ Aside0 (w'.heap[gb397]? = some (.cells #[.int .i64 a1_0, .string a1_1, .int .i64 a1_2, .int .i64 a1_3, (.slice A1_4 l1_4.length c1_4)] 39 (0, 0))) ∧ Aside0 (Below w.heap.size w w'))
   case atStart => exact ⟨(0), (by first | rfl | (simp; done) | (simp [*]; done)), H', ⟨Nat.le_refl _⟩, ⟨by (with_reducible repeat first | apply Y11 | apply Y13 | apply Y12); exact BK396.out⟩, ⟨by (with_reducible repeat first | apply Y11 | apply Y13 | apply Y12); exact BK397.out⟩, ⟨by repeat (with_reducible first | exact HB.out | apply Y3 | apply Y1 | apply Y2 | refine Y4 ?_ GE396.out | refine Y4 ?_ GE397.out)⟩⟩
   case round =>
    clear H'
    obtain ⟨x7_2, rfl, HA, HK2, BK396, BK397, HB⟩ := hrel
    cases gk with
    | zero => exact absurd HA.out (by simp [truffleref14_Same.l0])
    | succ k2 =>
     have H := HA.out
     clear HA
     simp only [truffleref14_Same.l0] at H
     by_cases c31 : x7_2 < (l0_4.length : Int)
     rotate_left
     ·rw [if_neg c31] at H
      have c31b0 : decide (x7_2 < (l0_4.length : Int)) = false := decide_eq_false c31
      clear c31
      obtain rfl := Option.some.inj H
      have hnb44 := NB396_397.out
      have hnc44 := NB397_396.out
      have ⟨hcz45_0, hcz45_1, hcz45_2, hcz45_3, hcz45_4, hfz45_0, hfz45_1, hfz45_2, hfz45_3, hfz45_4⟩ := sq_box5 BK396.out
      go_wp2
      go_ret
      exact ⟨by first | rfl | (simp [] <;> rfl) | (simp [*] <;> rfl), by repeat (with_reducible first | exact HB.out | apply Y3 | apply Y1 | apply Y2 | refine Y4 ?_ GE396.out | refine Y4 ?_ GE397.out)⟩
     rw [if_pos c31] at H
     have c31b0 : decide (x7_2 < (l0_4.length : Int)) = true := decide_eq_true c31
     clear c31
     by_cases c32 : 0 ≤ x7_2
     rotate_left
     ·rw [if_neg c32] at H
      exact absurd H (by simp)
     rw [if_pos c32] at H
     have c32b0 : decide (0 ≤ x7_2) = true := decide_eq_true c32
     clear c32
     by_cases c33 : x7_2 < (l1_4.length : Int)
     rotate_left
     ·rw [if_neg c33] at H
      exact absurd H (by simp)
     rw [if_pos c33] at H
     have c33b0 : decide (x7_2 < (l1_4.length : Int)) = true := decide_eq_true c33
     clear c33
     replace H := Y17.mp H
     obtain ⟨t400, A340, H⟩ := H
     try dsimp only at H
     have A34 := Y0 A340
     clear A340
     by_cases c35 : t400 = true
     rotate_left
     ·replace c35 := Bool.eq_false_iff.mpr c35
      subst c35
      rw [if_neg (show ¬ (false = true) by decide)] at H
      obtain rfl := Option.some.inj H
      have hnb40 := NB396_397.out
      have hnc40 := NB397_396.out
      have ⟨hcz41_0, hcz41_1, hcz41_2, hcz41_3, hcz41_4, hfz41_0, hfz41_1, hfz41_2, hfz41_3, hfz41_4⟩ := sq_box5 BK396.out
      try go_wp2
      have n0_ := Y0 (blk_drew BK396.out)
      have n1_ := Y0 (blk_drew BK397.out)
      have n2_ := Y0 (below_drew1 HB.out)
      clear BK396
      clear BK397
      clear HB
      have BK396 := n0_
      have BK397 := n1_
      have HB := n2_
      clear n0_ n1_ n2_
      have p398 : 0 ≤ (x7_2 : Int) := of_decide_eq_true (by first | (with_reducible assumption) | assumption)
      have q398 : x7_2 < (l0_4.length : Int) := of_decide_eq_true (by first | (with_reducible assumption) | assumption)
      obtain ⟨ad398, A398_4, c398_4, e398, hx398_0, hx398_1, hx398_2, hx398_3, hx398_4, hl398_4, hi398_4⟩ := at_T39 HR0_4.out x7_2 p398 q398
      have hw398_4 := hx398_4
      have hw398_3 := hx398_3
      have hw398_2 := hx398_2
      have hw398_1 := hx398_1
      have hw398_0 := hx398_0
      cases e398
      replace hx398_0 := (HB.out.cell (World.block_lt_of_cell? w _ hx398_0)).trans hx398_0
      replace hx398_1 := (HB.out.cell (World.block_lt_of_cell? w _ hx398_1)).trans hx398_1
      replace hx398_2 := (HB.out.cell (World.block_lt_of_cell? w _ hx398_2)).trans hx398_2
      replace hx398_3 := (HB.out.cell (World.block_lt_of_cell? w _ hx398_3)).trans hx398_3
      replace hx398_4 := (HB.out.cell (World.block_lt_of_cell? w _ hx398_4)).trans hx398_4
      have HR398_4 := Y0 hi398_4
      have HC398_4 := Y0 hl398_4
      clear hi398_4 hl398_4
      replace p398 := eq_true p398
      replace q398 := eq_true q398
      have p399 : 0 ≤ (x7_2 : Int) := of_decide_eq_true (by first | (with_reducible assumption) | assumption)
      have q399 : x7_2 < (l1_4.length : Int) := of_decide_eq_true (by first | (with_reducible assumption) | assumption)
      obtain ⟨ad399, A399_4, c399_4, e399, hx399_0, hx399_1, hx399_2, hx399_3, hx399_4, hl399_4, hi399_4⟩ := at_T39 HR1_4.out x7_2 p399 q399
      have hw399_4 := hx399_4
      have hw399_3 := hx399_3
      have hw399_2 := hx399_2
      have hw399_1 := hx399_1
      have hw399_0 := hx399_0
      cases e399
      replace hx399_0 := (HB.out.cell (World.block_lt_of_cell? w _ hx399_0)).trans hx399_0
      replace hx399_1 := (HB.out.cell (World.block_lt_of_cell? w _ hx399_1)).trans hx399_1
      replace hx399_2 := (HB.out.cell (World.block_lt_of_cell? w _ hx399_2)).trans hx399_2
      replace hx399_3 := (HB.out.cell (World.block_lt_of_cell? w _ hx399_3)).trans hx399_3
      replace hx399_4 := (HB.out.cell (World.block_lt_of_cell? w _ hx399_4)).trans hx399_4
      have HR399_4 := Y0 hi399_4
      have HC399_4 := Y0 hl399_4
      clear hi399_4 hl399_4
      replace p399 := eq_true p399
      replace q399 := eq_true q399
      refine start_ (n := 13) (S := fun w' => w'.cell? ⟨gb396, 0, none⟩ = some (.int .i64 a0_0) ∧ w'.cell? ⟨gb396, 1, none⟩ = some (.string a0_1) ∧ w'.cell? ⟨gb396, 2, none⟩ = some (.int .i64 a0_2) ∧ w'.cell? ⟨gb396, 3, none⟩ = some (.int .i64 a0_3) ∧ w'.cell? ⟨gb396, 4, none⟩ = some (.slice (some ad398) l0_4.length c0_4) ∧ w'.cell? ⟨gb397, 0, none⟩ = some (.int .i64 a1_0) ∧ w'.cell? ⟨gb397, 1, none⟩ = some (.string a1_1) ∧ w'.cell? ⟨gb397, 2, none⟩ = some (.int .i64 a1_2) ∧ w'.cell? ⟨gb397, 3, none⟩ = some (.int .i64 a1_3) ∧ w'.cell? ⟨gb397, 4, none⟩ = some (.slice (some ad399) l1_4.length c1_4) ∧ w'.cell? (ad398.add ((x7_2).toNat * 5)) = some (.int .i64 ((rd_T39 l0_4 x7_2).f0)) ∧ w'.cell? ⟨(ad398.add ((x7_2).toNat * 5)).block, (ad398.add ((x7_2).toNat * 5)).off + 1, none⟩ = some (.string ((rd_T39 l0_4 x7_2).f1)) ∧ w'.cell? ⟨(ad398.add ((x7_2).toNat * 5)).block, (ad398.add ((x7_2).toNat * 5)).off + 2, none⟩ = some (.int .i64 ((rd_T39 l0_4 x7_2).f2)) ∧ w'.cell? ⟨(ad398.add ((x7_2).toNat * 5)).block, (ad398.add ((x7_2).toNat * 5)).off + 3, none⟩ = some (.int .i64 ((rd_T39 l0_4 x7_2).f3)) ∧ w'.cell? ⟨(ad398.add ((x7_2).toNat * 5)).block, (ad398.add ((x7_2).toNat * 5)).off + 4, none⟩ = some (.slice A398_4 ((rd_T39 l0_4 x7_2).f4).length c398_4) ∧ w'.cell? (ad399.add ((x7_2).toNat * 5)) = some (.int .i64 ((rd_T39 l1_4 x7_2).f0)) ∧ w'.cell? ⟨(ad399.add ((x7_2).toNat * 5)).block, (ad399.add ((x7_2).toNat * 5)).off + 1, none⟩ = some (.string ((rd_T39 l1_4 x7_2).f1)) ∧ w'.cell? ⟨(ad399.add ((x7_2).toNat * 5)).block, (ad399.add ((x7_2).toNat * 5)).off + 2, none⟩ = some (.int .i64 ((rd_T39 l1_4 x7_2).f2)) ∧ w'.cell? ⟨(ad399.add ((x7_2).toNat * 5)).block, (ad399.add ((x7_2).toNat * 5)).off + 3, none⟩ = some (.int .i64 ((rd_T39 l1_4 x7_2).f3)) ∧ w'.cell? ⟨(ad399.add ((x7_2).toNat * 5)).block, (ad399.add ((x7_2).toNat * 5)).off + 4, none⟩ = some (.slice A399_4 ((rd_T39 l1_4 x7_2).f4).length c399_4)) (ds := []) #[false, false, false, false, false, false, false, false, false, false, false, false, false] (by kernel_rfl) rfl rfl ⟨(blk_cell BK396.out 0).trans rfl, (blk_cell BK396.out 1).trans rfl, (blk_cell BK396.out 2).trans rfl, (blk_cell BK396.out 3).trans rfl, (blk_cell BK396.out 4).trans rfl, (blk_cell BK397.out 0).trans rfl, (blk_cell BK397.out 1).trans rfl, (blk_cell BK397.out 2).trans rfl, (blk_cell BK397.out 3).trans rfl, (blk_cell BK397.out 4).trans rfl, ((HB.out.cell (World.block_lt_of_cell? w _ hw398_0)).trans hw398_0), ((HB.out.cell (World.block_lt_of_cell? w _ hw398_1)).trans hw398_1), ((HB.out.cell (World.block_lt_of_cell? w _ hw398_2)).trans hw398_2), ((HB.out.cell (World.block_lt_of_cell? w _ hw398_3)).trans hw398_3), ((HB.out.cell (World.block_lt_of_cell? w _ hw398_4)).trans hw398_4), ((HB.out.cell (World.block_lt_of_cell? w _ hw399_0)).trans hw399_0), ((HB.out.cell (World.block_lt_of_cell? w _ hw399_1)).trans hw399_1), ((HB.out.cell (World.block_lt_of_cell? w _ hw399_2)).trans hw399_2), ((HB.out.cell (World.block_lt_of_cell? w _ hw399_3)).trans hw399_3), ((HB.out.cell (World.block_lt_of_cell? w _ hw399_4)).trans hw399_4)⟩ (fun hHeld => ?_); refine with_tabW truffleref14_Same.tab6 truffleref14_Same.bits6 (fun HT_ HW_ => ?_)
      generalize wr.drew = w42 at BK396 BK397 HB HR398_4 HR399_4 hx398_0 hx398_1 hx398_2 hx398_3 hx398_4 hx399_0 hx399_1 hx399_2 hx399_3 hx399_4 hHeld ⊢
      refine pure_ (i := 0) (N := some 54) (v := ?_) (a' := ?_) (sqB 13 1) rfl rfl (any_of HT_.out (by kernel_rfl)) (fun _ _ _ h => h) (Or.inl ⟨by rfl, ?_⟩) ?_ ?_
      rotate_left
      ·intro w'
       go_simp
       with_reducible rfl
      rotate_left
      ·simp only [Act.put, Y14, Y15, Y16, i64_w]
       rfl
      refine pure_ (i := 2) (N := some 56) (v := ?_) (a' := ?_) (sqB 13 5) rfl rfl (any_of HT_.out (by kernel_rfl)) (fun _ _ _ h => h) (Or.inl ⟨by rfl, ?_⟩) ?_ ?_
      rotate_left
      ·intro w'
       go_simp
       with_reducible rfl
      rotate_left
      ·simp only [Act.put, Y14, Y15, Y16, i64_w]
       rfl
      refine pure_ (i := 5) (N := some 59) (v := ?_) (a' := ?_) (sqB 13 37) rfl rfl (any_of HT_.out (by kernel_rfl)) (fun _ _ _ h => h) (Or.inl ⟨by rfl, ?_⟩) ?_ ?_
      rotate_left
      ·intro w'
       go_simp
       with_reducible rfl
      rotate_left
      ·simp only [Act.put, Y14, Y15, Y16, i64_w]
       rfl
      refine pure_ (i := 7) (N := some 61) (v := ?_) (a' := ?_) (sqB 13 165) rfl rfl (any_of HT_.out (by kernel_rfl)) (fun _ _ _ h => h) (Or.inl ⟨by rfl, ?_⟩) ?_ ?_
      rotate_left
      ·intro w'
       go_simp
       with_reducible rfl
      rotate_left
      ·simp only [Act.put, Y14, Y15, Y16, i64_w]
       rfl
      refine pure_ (i := 10) (N := some 64) (v := ?_) (a' := ?_) (sqB 13 1189) rfl rfl (any_of HT_.out (by kernel_rfl)) (fun _ _ _ h => h) (Or.inl ⟨by rfl, ?_⟩) ?_ ?_
      rotate_left
      ·intro w'
       go_simp
       with_reducible rfl
      rotate_left
      ·simp only [Act.put, Y14, Y15, Y16, i64_w]
       rfl
      refine take_ (i := 1) (N := some 55) (v := ?_) (a' := ?_) (sqB 13 1191) rfl rfl (take_ofW HT_.out HW_.out (by kernel_rfl)) (fun _ _ _ h => h) (Or.inl ⟨by rfl, ?_⟩) hHeld ?_ ?_
      rotate_left
      ·rintro w' ⟨s0, s1, s2, s3, s4, s5, s6, s7, s8, s9, s10, s11, s12, s13, s14, s15, s16, s17, s18, s19⟩
       go_simp
       with_reducible rfl
      rotate_left
      ·simp only [Act.put, Y14, Y15, Y16, i64_w]
       rfl
      refine pure_ (i := 3) (N := some 57) (v := ?_) (a' := ?_) (sqB 13 1199) rfl rfl (any_of HT_.out (by kernel_rfl)) (fun _ _ _ h => h) (Or.inl ⟨by rfl, ?_⟩) ?_ ?_
      rotate_left
      ·intro w'
       go_simp
       with_reducible rfl
      rotate_left
      ·simp only [Act.put, Y14, Y15, Y16, i64_w]
       rfl
      refine take_ (i := 4) (N := some 58) (v := ?_) (a' := ?_) (sqB 13 1215) rfl rfl (take_ofW HT_.out HW_.out (by kernel_rfl)) (fun _ _ _ h => h) (Or.inl ⟨by rfl, ?_⟩) hHeld ?_ ?_
      rotate_left
      ·rintro w' ⟨s0, s1, s2, s3, s4, s5, s6, s7, s8, s9, s10, s11, s12, s13, s14, s15, s16, s17, s18, s19⟩
       go_simp
       with_reducible rfl
      rotate_left
      ·simp only [Act.put, Y14, Y15, Y16, i64_w]
       rfl
      refine take_ (i := 6) (N := some 60) (v := ?_) (a' := ?_) (sqB 13 1279) rfl rfl (take_ofW HT_.out HW_.out (by kernel_rfl)) (fun _ _ _ h => h) (Or.inl ⟨by rfl, ?_⟩) hHeld ?_ ?_
      rotate_left
      ·rintro w' ⟨s0, s1, s2, s3, s4, s5, s6, s7, s8, s9, s10, s11, s12, s13, s14, s15, s16, s17, s18, s19⟩
       go_simp
       with_reducible rfl
      rotate_left
      ·simp only [Act.put, Y14, Y15, Y16, i64_w]
       rfl
      refine pure_ (i := 8) (N := some 62) (v := ?_) (a' := ?_) (sqB 13 1535) rfl rfl (any_of HT_.out (by kernel_rfl)) (fun _ _ _ h => h) (Or.inl ⟨by rfl, ?_⟩) ?_ ?_
      rotate_left
      ·intro w'
       go_simp
       with_reducible rfl
      rotate_left
      ·simp only [Act.put, Y14, Y15, Y16, i64_w]
       rfl
      refine take_ (i := 9) (N := some 63) (v := ?_) (a' := ?_) (sqB 13 2047) rfl rfl (take_ofW HT_.out HW_.out (by kernel_rfl)) (fun _ _ _ h => h) (Or.inl ⟨by rfl, ?_⟩) hHeld ?_ ?_
      rotate_left
      ·rintro w' ⟨s0, s1, s2, s3, s4, s5, s6, s7, s8, s9, s10, s11, s12, s13, s14, s15, s16, s17, s18, s19⟩
       go_simp
       with_reducible rfl
      rotate_left
      ·simp only [Act.put, Y14, Y15, Y16, i64_w]
       rfl
      refine one_ (i := 11) (N := some 65) (sqB 13 4095) rfl rfl (one_of HT_.out (by kernel_rfl)) (by decide) (fun K hK => ?_)
      refine goes_ Tryd.func28 (by kernel_rfl) rfl #[.agg #[.int .i64 ((rd_T39 l0_4 x7_2).f0), .string ((rd_T39 l0_4 x7_2).f1), .int .i64 ((rd_T39 l0_4 x7_2).f2), .int .i64 ((rd_T39 l0_4 x7_2).f3), .slice A398_4 ((rd_T39 l0_4 x7_2).f4).length c398_4], .agg #[.int .i64 ((rd_T39 l1_4 x7_2).f0), .string ((rd_T39 l1_4 x7_2).f1), .int .i64 ((rd_T39 l1_4 x7_2).f2), .int .i64 ((rd_T39 l1_4 x7_2).f3), .slice A399_4 ((rd_T39 l1_4 x7_2).f4).length c399_4], .bool a2] (by rfl) rfl rfl (by (try simp only [List.map_toArray, List.map_cons, List.map_nil]); first | done | rfl | (simp only [List.length_drop, List.length_take]; rfl)) ?_
      with_reducible refine (ih k2 (by have := HJ3.out; have := HK2.out; omega) ((rd_T39 l0_4 x7_2).f0) ((rd_T39 l0_4 x7_2).f1) ((rd_T39 l0_4 x7_2).f2) ((rd_T39 l0_4 x7_2).f3) _ _ ((rd_T39 l0_4 x7_2).f4) ((rd_T39 l1_4 x7_2).f0) ((rd_T39 l1_4 x7_2).f1) ((rd_T39 l1_4 x7_2).f2) ((rd_T39 l1_4 x7_2).f3) _ _ ((rd_T39 l1_4 x7_2).f4) a2 false _ ?side1 ?side2 ?side3 ?side4 A34.out).mono ?_
      (case side1 => repeat (first | exact (Kd.C_below HR398_4.out HB.out) | (with_reducible refine Kd.C_alloc ?_ _) | (with_reducible refine Kd.C_drewN ?_ _) | (with_reducible refine Kd.C_drew ?_)))
      (case side2 => exact HC398_4.out)
      (case side3 => repeat (first | exact (Kd.C_below HR399_4.out HB.out) | (with_reducible refine Kd.C_alloc ?_ _) | (with_reducible refine Kd.C_drewN ?_ _) | (with_reducible refine Kd.C_drew ?_)))
      (case side4 => exact HC399_4.out)
      rintro e w43 ⟨rfl, hb⟩
      refine ⟨_, rfl, ?_⟩
      have n0_ := Y0 (blk_below (g := gb396) (o := .cells #[.int .i64 a0_0, .string a0_1, .int .i64 a0_2, .int .i64 a0_3, .slice (some ad398) l0_4.length c0_4] 39 (0, 0)) (by (with_reducible repeat first | apply Y11 | apply Y13 | apply Y12); exact BK396.out) hb)
      have n1_ := Y0 (blk_below (g := gb397) (o := .cells #[.int .i64 a1_0, .string a1_1, .int .i64 a1_2, .int .i64 a1_3, .slice (some ad399) l1_4.length c1_4] 39 (0, 0)) (by (with_reducible repeat first | apply Y11 | apply Y13 | apply Y12); exact BK397.out) hb)
      have n2_ := Y0 (below_step (by repeat (with_reducible first | exact HB.out | apply Y3 | apply Y1 | apply Y2 | refine Y4 ?_ GE396.out | refine Y4 ?_ GE397.out)) hb)
      clear BK396
      clear BK397
      clear HB
      have BK396 := n0_
      have BK397 := n1_
      have HB := n2_
      clear n0_ n1_ n2_
      (try clear hb)
      (try clear hb2)
      (try clear hk)
      (try clear hi)
      refine hK.out _ _ ⟨(blk_cell BK396.out 0).trans rfl, (blk_cell BK396.out 1).trans rfl, (blk_cell BK396.out 2).trans rfl, (blk_cell BK396.out 3).trans rfl, (blk_cell BK396.out 4).trans rfl, (blk_cell BK397.out 0).trans rfl, (blk_cell BK397.out 1).trans rfl, (blk_cell BK397.out 2).trans rfl, (blk_cell BK397.out 3).trans rfl, (blk_cell BK397.out 4).trans rfl, ((HB.out.cell (World.block_lt_of_cell? w _ hw398_0)).trans hw398_0), ((HB.out.cell (World.block_lt_of_cell? w _ hw398_1)).trans hw398_1), ((HB.out.cell (World.block_lt_of_cell? w _ hw398_2)).trans hw398_2), ((HB.out.cell (World.block_lt_of_cell? w _ hw398_3)).trans hw398_3), ((HB.out.cell (World.block_lt_of_cell? w _ hw398_4)).trans hw398_4), ((HB.out.cell (World.block_lt_of_cell? w _ hw399_0)).trans hw399_0), ((HB.out.cell (World.block_lt_of_cell? w _ hw399_1)).trans hw399_1), ((HB.out.cell (World.block_lt_of_cell? w _ hw399_2)).trans hw399_2), ((HB.out.cell (World.block_lt_of_cell? w _ hw399_3)).trans hw399_3), ((HB.out.cell (World.block_lt_of_cell? w _ hw399_4)).trans hw399_4)⟩ (fun hHeld => ?_)
      clear hK K
      refine norm_ (a' := ?_) ?_ ?_
      rotate_left
      ·show Act.put _ (some 65) _ = _
       simp only [Act.put, Y14, Y15, Y16, i64_w]
       rfl
      refine pure_ (i := 12) (N := some 8) (v := ?_) (a' := ?_) (sqB 13 8191) rfl rfl (any_of HT_.out (by kernel_rfl)) (fun _ _ _ h => h) (Or.inl ⟨by rfl, ?_⟩) ?_ ?_
      rotate_left
      ·intro w'
       go_simp
       with_reducible rfl
      rotate_left
      ·simp only [Act.put, Y14, Y15, Y16, i64_w]
       rfl
      refine done_ (done_of HT_.out (by kernel_rfl)) ?_
      try go_wp2
      go_ret
      exact ⟨by first | rfl | (simp [] <;> rfl) | (simp [*] <;> rfl), by repeat (with_reducible first | exact HB.out | apply Y3 | apply Y1 | apply Y2 | refine Y4 ?_ GE396.out | refine Y4 ?_ GE397.out)⟩
     subst c35
     rw [if_pos rfl] at H
     have H' := Y0 H
     clear H
     have hnb36 := NB396_397.out
     have hnc36 := NB397_396.out
     have ⟨hcz37_0, hcz37_1, hcz37_2, hcz37_3, hcz37_4, hfz37_0, hfz37_1, hfz37_2, hfz37_3, hfz37_4⟩ := sq_box5 BK396.out
     try go_wp2
     have n0_ := Y0 (blk_drew BK396.out)
     have n1_ := Y0 (blk_drew BK397.out)
     have n2_ := Y0 (below_drew1 HB.out)
     clear BK396
     clear BK397
     clear HB
     have BK396 := n0_
     have BK397 := n1_
     have HB := n2_
     clear n0_ n1_ n2_
     have p398 : 0 ≤ (x7_2 : Int) := of_decide_eq_true (by first | (with_reducible assumption) | assumption)
     have q398 : x7_2 < (l0_4.length : Int) := of_decide_eq_true (by first | (with_reducible assumption) | assumption)
     obtain ⟨ad398, A398_4, c398_4, e398, hx398_0, hx398_1, hx398_2, hx398_3, hx398_4, hl398_4, hi398_4⟩ := at_T39 HR0_4.out x7_2 p398 q398
     have hw398_4 := hx398_4
     have hw398_3 := hx398_3
     have hw398_2 := hx398_2
     have hw398_1 := hx398_1
     have hw398_0 := hx398_0
     cases e398
     replace hx398_0 := (HB.out.cell (World.block_lt_of_cell? w _ hx398_0)).trans hx398_0
     replace hx398_1 := (HB.out.cell (World.block_lt_of_cell? w _ hx398_1)).trans hx398_1
     replace hx398_2 := (HB.out.cell (World.block_lt_of_cell? w _ hx398_2)).trans hx398_2
     replace hx398_3 := (HB.out.cell (World.block_lt_of_cell? w _ hx398_3)).trans hx398_3
     replace hx398_4 := (HB.out.cell (World.block_lt_of_cell? w _ hx398_4)).trans hx398_4
     have HR398_4 := Y0 hi398_4
     have HC398_4 := Y0 hl398_4
     clear hi398_4 hl398_4
     replace p398 := eq_true p398
     replace q398 := eq_true q398
     have p399 : 0 ≤ (x7_2 : Int) := of_decide_eq_true (by first | (with_reducible assumption) | assumption)
     have q399 : x7_2 < (l1_4.length : Int) := of_decide_eq_true (by first | (with_reducible assumption) | assumption)
     obtain ⟨ad399, A399_4, c399_4, e399, hx399_0, hx399_1, hx399_2, hx399_3, hx399_4, hl399_4, hi399_4⟩ := at_T39 HR1_4.out x7_2 p399 q399
     have hw399_4 := hx399_4
     have hw399_3 := hx399_3
     have hw399_2 := hx399_2
     have hw399_1 := hx399_1
     have hw399_0 := hx399_0
     cases e399
     replace hx399_0 := (HB.out.cell (World.block_lt_of_cell? w _ hx399_0)).trans hx399_0
     replace hx399_1 := (HB.out.cell (World.block_lt_of_cell? w _ hx399_1)).trans hx399_1
     replace hx399_2 := (HB.out.cell (World.block_lt_of_cell? w _ hx399_2)).trans hx399_2
     replace hx399_3 := (HB.out.cell (World.block_lt_of_cell? w _ hx399_3)).trans hx399_3
     replace hx399_4 := (HB.out.cell (World.block_lt_of_cell? w _ hx399_4)).trans hx399_4
     have HR399_4 := Y0 hi399_4
     have HC399_4 := Y0 hl399_4
     clear hi399_4 hl399_4
     replace p399 := eq_true p399
     replace q399 := eq_true q399
     refine start_ (n := 13) (S := fun w' => w'.cell? ⟨gb396, 0, none⟩ = some (.int .i64 a0_0) ∧ w'.cell? ⟨gb396, 1, none⟩ = some (.string a0_1) ∧ w'.cell? ⟨gb396, 2, none⟩ = some (.int .i64 a0_2) ∧ w'.cell? ⟨gb396, 3, none⟩ = some (.int .i64 a0_3) ∧ w'.cell? ⟨gb396, 4, none⟩ = some (.slice (some ad398) l0_4.length c0_4) ∧ w'.cell? ⟨gb397, 0, none⟩ = some (.int .i64 a1_0) ∧ w'.cell? ⟨gb397, 1, none⟩ = some (.string a1_1) ∧ w'.cell? ⟨gb397, 2, none⟩ = some (.int .i64 a1_2) ∧ w'.cell? ⟨gb397, 3, none⟩ = some (.int .i64 a1_3) ∧ w'.cell? ⟨gb397, 4, none⟩ = some (.slice (some ad399) l1_4.length c1_4) ∧ w'.cell? (ad398.add ((x7_2).toNat * 5)) = some (.int .i64 ((rd_T39 l0_4 x7_2).f0)) ∧ w'.cell? ⟨(ad398.add ((x7_2).toNat * 5)).block, (ad398.add ((x7_2).toNat * 5)).off + 1, none⟩ = some (.string ((rd_T39 l0_4 x7_2).f1)) ∧ w'.cell? ⟨(ad398.add ((x7_2).toNat * 5)).block, (ad398.add ((x7_2).toNat * 5)).off + 2, none⟩ = some (.int .i64 ((rd_T39 l0_4 x7_2).f2)) ∧ w'.cell? ⟨(ad398.add ((x7_2).toNat * 5)).block, (ad398.add ((x7_2).toNat * 5)).off + 3, none⟩ = some (.int .i64 ((rd_T39 l0_4 x7_2).f3)) ∧ w'.cell? ⟨(ad398.add ((x7_2).toNat * 5)).block, (ad398.add ((x7_2).toNat * 5)).off + 4, none⟩ = some (.slice A398_4 ((rd_T39 l0_4 x7_2).f4).length c398_4) ∧ w'.cell? (ad399.add ((x7_2).toNat * 5)) = some (.int .i64 ((rd_T39 l1_4 x7_2).f0)) ∧ w'.cell? ⟨(ad399.add ((x7_2).toNat * 5)).block, (ad399.add ((x7_2).toNat * 5)).off + 1, none⟩ = some (.string ((rd_T39 l1_4 x7_2).f1)) ∧ w'.cell? ⟨(ad399.add ((x7_2).toNat * 5)).block, (ad399.add ((x7_2).toNat * 5)).off + 2, none⟩ = some (.int .i64 ((rd_T39 l1_4 x7_2).f2)) ∧ w'.cell? ⟨(ad399.add ((x7_2).toNat * 5)).block, (ad399.add ((x7_2).toNat * 5)).off + 3, none⟩ = some (.int .i64 ((rd_T39 l1_4 x7_2).f3)) ∧ w'.cell? ⟨(ad399.add ((x7_2).toNat * 5)).block, (ad399.add ((x7_2).toNat * 5)).off + 4, none⟩ = some (.slice A399_4 ((rd_T39 l1_4 x7_2).f4).length c399_4)) (ds := []) #[false, false, false, false, false, false, false, false, false, false, false, false, false] (by kernel_rfl) rfl rfl ⟨(blk_cell BK396.out 0).trans rfl, (blk_cell BK396.out 1).trans rfl, (blk_cell BK396.out 2).trans rfl, (blk_cell BK396.out 3).trans rfl, (blk_cell BK396.out 4).trans rfl, (blk_cell BK397.out 0).trans rfl, (blk_cell BK397.out 1).trans rfl, (blk_cell BK397.out 2).trans rfl, (blk_cell BK397.out 3).trans rfl, (blk_cell BK397.out 4).trans rfl, ((HB.out.cell (World.block_lt_of_cell? w _ hw398_0)).trans hw398_0), ((HB.out.cell (World.block_lt_of_cell? w _ hw398_1)).trans hw398_1), ((HB.out.cell (World.block_lt_of_cell? w _ hw398_2)).trans hw398_2), ((HB.out.cell (World.block_lt_of_cell? w _ hw398_3)).trans hw398_3), ((HB.out.cell (World.block_lt_of_cell? w _ hw398_4)).trans hw398_4), ((HB.out.cell (World.block_lt_of_cell? w _ hw399_0)).trans hw399_0), ((HB.out.cell (World.block_lt_of_cell? w _ hw399_1)).trans hw399_1), ((HB.out.cell (World.block_lt_of_cell? w _ hw399_2)).trans hw399_2), ((HB.out.cell (World.block_lt_of_cell? w _ hw399_3)).trans hw399_3), ((HB.out.cell (World.block_lt_of_cell? w _ hw399_4)).trans hw399_4)⟩ (fun hHeld => ?_); refine with_tabW truffleref14_Same.tab6 truffleref14_Same.bits6 (fun HT_ HW_ => ?_)
     generalize wr.drew = w38 at BK396 BK397 HB HR398_4 HR399_4 hx398_0 hx398_1 hx398_2 hx398_3 hx398_4 hx399_0 hx399_1 hx399_2 hx399_3 hx399_4 hHeld ⊢
     refine pure_ (i := 0) (N := some 54) (v := ?_) (a' := ?_) (sqB 13 1) rfl rfl (any_of HT_.out (by kernel_rfl)) (fun _ _ _ h => h) (Or.inl ⟨by rfl, ?_⟩) ?_ ?_
     rotate_left
     ·intro w'
      go_simp
      with_reducible rfl
     rotate_left
     ·simp only [Act.put, Y14, Y15, Y16, i64_w]
      rfl
     refine pure_ (i := 2) (N := some 56) (v := ?_) (a' := ?_) (sqB 13 5) rfl rfl (any_of HT_.out (by kernel_rfl)) (fun _ _ _ h => h) (Or.inl ⟨by rfl, ?_⟩) ?_ ?_
     rotate_left
     ·intro w'
      go_simp
      with_reducible rfl
     rotate_left
     ·simp only [Act.put, Y14, Y15, Y16, i64_w]
      rfl
     refine pure_ (i := 5) (N := some 59) (v := ?_) (a' := ?_) (sqB 13 37) rfl rfl (any_of HT_.out (by kernel_rfl)) (fun _ _ _ h => h) (Or.inl ⟨by rfl, ?_⟩) ?_ ?_
     rotate_left
     ·intro w'
      go_simp
      with_reducible rfl
     rotate_left
     ·simp only [Act.put, Y14, Y15, Y16, i64_w]
      rfl
     refine pure_ (i := 7) (N := some 61) (v := ?_) (a' := ?_) (sqB 13 165) rfl rfl (any_of HT_.out (by kernel_rfl)) (fun _ _ _ h => h) (Or.inl ⟨by rfl, ?_⟩) ?_ ?_
     rotate_left
     ·intro w'
      go_simp
      with_reducible rfl
     rotate_left
     ·simp only [Act.put, Y14, Y15, Y16, i64_w]
      rfl
     refine pure_ (i := 10) (N := some 64) (v := ?_) (a' := ?_) (sqB 13 1189) rfl rfl (any_of HT_.out (by kernel_rfl)) (fun _ _ _ h => h) (Or.inl ⟨by rfl, ?_⟩) ?_ ?_
     rotate_left
     ·intro w'
      go_simp
      with_reducible rfl
     rotate_left
     ·simp only [Act.put, Y14, Y15, Y16, i64_w]
      rfl
     refine take_ (i := 1) (N := some 55) (v := ?_) (a' := ?_) (sqB 13 1191) rfl rfl (take_ofW HT_.out HW_.out (by kernel_rfl)) (fun _ _ _ h => h) (Or.inl ⟨by rfl, ?_⟩) hHeld ?_ ?_
     rotate_left
     ·rintro w' ⟨s0, s1, s2, s3, s4, s5, s6, s7, s8, s9, s10, s11, s12, s13, s14, s15, s16, s17, s18, s19⟩
      go_simp
      with_reducible rfl
     rotate_left
     ·simp only [Act.put, Y14, Y15, Y16, i64_w]
      rfl
     refine pure_ (i := 3) (N := some 57) (v := ?_) (a' := ?_) (sqB 13 1199) rfl rfl (any_of HT_.out (by kernel_rfl)) (fun _ _ _ h => h) (Or.inl ⟨by rfl, ?_⟩) ?_ ?_
     rotate_left
     ·intro w'
      go_simp
      with_reducible rfl
     rotate_left
     ·simp only [Act.put, Y14, Y15, Y16, i64_w]
      rfl
     refine take_ (i := 4) (N := some 58) (v := ?_) (a' := ?_) (sqB 13 1215) rfl rfl (take_ofW HT_.out HW_.out (by kernel_rfl)) (fun _ _ _ h => h) (Or.inl ⟨by rfl, ?_⟩) hHeld ?_ ?_
     rotate_left
     ·rintro w' ⟨s0, s1, s2, s3, s4, s5, s6, s7, s8, s9, s10, s11, s12, s13, s14, s15, s16, s17, s18, s19⟩
      go_simp
      with_reducible rfl
     rotate_left
     ·simp only [Act.put, Y14, Y15, Y16, i64_w]
      rfl
     refine take_ (i := 6) (N := some 60) (v := ?_) (a' := ?_) (sqB 13 1279) rfl rfl (take_ofW HT_.out HW_.out (by kernel_rfl)) (fun _ _ _ h => h) (Or.inl ⟨by rfl, ?_⟩) hHeld ?_ ?_
     rotate_left
     ·rintro w' ⟨s0, s1, s2, s3, s4, s5, s6, s7, s8, s9, s10, s11, s12, s13, s14, s15, s16, s17, s18, s19⟩
      go_simp
      with_reducible rfl
     rotate_left
     ·simp only [Act.put, Y14, Y15, Y16, i64_w]
      rfl
     refine pure_ (i := 8) (N := some 62) (v := ?_) (a' := ?_) (sqB 13 1535) rfl rfl (any_of HT_.out (by kernel_rfl)) (fun _ _ _ h => h) (Or.inl ⟨by rfl, ?_⟩) ?_ ?_
     rotate_left
     ·intro w'
      go_simp
      with_reducible rfl
     rotate_left
     ·simp only [Act.put, Y14, Y15, Y16, i64_w]
      rfl
     refine take_ (i := 9) (N := some 63) (v := ?_) (a' := ?_) (sqB 13 2047) rfl rfl (take_ofW HT_.out HW_.out (by kernel_rfl)) (fun _ _ _ h => h) (Or.inl ⟨by rfl, ?_⟩) hHeld ?_ ?_
     rotate_left
     ·rintro w' ⟨s0, s1, s2, s3, s4, s5, s6, s7, s8, s9, s10, s11, s12, s13, s14, s15, s16, s17, s18, s19⟩
      go_simp
      with_reducible rfl
     rotate_left
     ·simp only [Act.put, Y14, Y15, Y16, i64_w]
      rfl
     refine one_ (i := 11) (N := some 65) (sqB 13 4095) rfl rfl (one_of HT_.out (by kernel_rfl)) (by decide) (fun K hK => ?_)
     refine goes_ Tryd.func28 (by kernel_rfl) rfl #[.agg #[.int .i64 ((rd_T39 l0_4 x7_2).f0), .string ((rd_T39 l0_4 x7_2).f1), .int .i64 ((rd_T39 l0_4 x7_2).f2), .int .i64 ((rd_T39 l0_4 x7_2).f3), .slice A398_4 ((rd_T39 l0_4 x7_2).f4).length c398_4], .agg #[.int .i64 ((rd_T39 l1_4 x7_2).f0), .string ((rd_T39 l1_4 x7_2).f1), .int .i64 ((rd_T39 l1_4 x7_2).f2), .int .i64 ((rd_T39 l1_4 x7_2).f3), .slice A399_4 ((rd_T39 l1_4 x7_2).f4).length c399_4], .bool a2] (by rfl) rfl rfl (by (try simp only [List.map_toArray, List.map_cons, List.map_nil]); first | done | rfl | (simp only [List.length_drop, List.length_take]; rfl)) ?_
     with_reducible refine (ih k2 (by have := HJ3.out; have := HK2.out; omega) ((rd_T39 l0_4 x7_2).f0) ((rd_T39 l0_4 x7_2).f1) ((rd_T39 l0_4 x7_2).f2) ((rd_T39 l0_4 x7_2).f3) _ _ ((rd_T39 l0_4 x7_2).f4) ((rd_T39 l1_4 x7_2).f0) ((rd_T39 l1_4 x7_2).f1) ((rd_T39 l1_4 x7_2).f2) ((rd_T39 l1_4 x7_2).f3) _ _ ((rd_T39 l1_4 x7_2).f4) a2 true _ ?side1 ?side2 ?side3 ?side4 A34.out).mono ?_
     (case side1 => repeat (first | exact (Kd.C_below HR398_4.out HB.out) | (with_reducible refine Kd.C_alloc ?_ _) | (with_reducible refine Kd.C_drewN ?_ _) | (with_reducible refine Kd.C_drew ?_)))
     (case side2 => exact HC398_4.out)
     (case side3 => repeat (first | exact (Kd.C_below HR399_4.out HB.out) | (with_reducible refine Kd.C_alloc ?_ _) | (with_reducible refine Kd.C_drewN ?_ _) | (with_reducible refine Kd.C_drew ?_)))
     (case side4 => exact HC399_4.out)
     rintro e w39 ⟨rfl, hb⟩
     refine ⟨_, rfl, ?_⟩
     have n0_ := Y0 (blk_below (g := gb396) (o := .cells #[.int .i64 a0_0, .string a0_1, .int .i64 a0_2, .int .i64 a0_3, .slice (some ad398) l0_4.length c0_4] 39 (0, 0)) (by (with_reducible repeat first | apply Y11 | apply Y13 | apply Y12); exact BK396.out) hb)
     have n1_ := Y0 (blk_below (g := gb397) (o := .cells #[.int .i64 a1_0, .string a1_1, .int .i64 a1_2, .int .i64 a1_3, .slice (some ad399) l1_4.length c1_4] 39 (0, 0)) (by (with_reducible repeat first | apply Y11 | apply Y13 | apply Y12); exact BK397.out) hb)
     have n2_ := Y0 (below_step (by repeat (with_reducible first | exact HB.out | apply Y3 | apply Y1 | apply Y2 | refine Y4 ?_ GE396.out | refine Y4 ?_ GE397.out)) hb)
     clear BK396
     clear BK397
     clear HB
     have BK396 := n0_
     have BK397 := n1_
     have HB := n2_
     clear n0_ n1_ n2_
     (try clear hb)
     (try clear hb2)
     (try clear hk)
     (try clear hi)
     refine hK.out _ _ ⟨(blk_cell BK396.out 0).trans rfl, (blk_cell BK396.out 1).trans rfl, (blk_cell BK396.out 2).trans rfl, (blk_cell BK396.out 3).trans rfl, (blk_cell BK396.out 4).trans rfl, (blk_cell BK397.out 0).trans rfl, (blk_cell BK397.out 1).trans rfl, (blk_cell BK397.out 2).trans rfl, (blk_cell BK397.out 3).trans rfl, (blk_cell BK397.out 4).trans rfl, ((HB.out.cell (World.block_lt_of_cell? w _ hw398_0)).trans hw398_0), ((HB.out.cell (World.block_lt_of_cell? w _ hw398_1)).trans hw398_1), ((HB.out.cell (World.block_lt_of_cell? w _ hw398_2)).trans hw398_2), ((HB.out.cell (World.block_lt_of_cell? w _ hw398_3)).trans hw398_3), ((HB.out.cell (World.block_lt_of_cell? w _ hw398_4)).trans hw398_4), ((HB.out.cell (World.block_lt_of_cell? w _ hw399_0)).trans hw399_0), ((HB.out.cell (World.block_lt_of_cell? w _ hw399_1)).trans hw399_1), ((HB.out.cell (World.block_lt_of_cell? w _ hw399_2)).trans hw399_2), ((HB.out.cell (World.block_lt_of_cell? w _ hw399_3)).trans hw399_3), ((HB.out.cell (World.block_lt_of_cell? w _ hw399_4)).trans hw399_4)⟩ (fun hHeld => ?_)
     clear hK K
     refine norm_ (a' := ?_) ?_ ?_
     rotate_left
     ·show Act.put _ (some 65) _ = _
      simp only [Act.put, Y14, Y15, Y16, i64_w]
      rfl
     refine pure_ (i := 12) (N := some 8) (v := ?_) (a' := ?_) (sqB 13 8191) rfl rfl (any_of HT_.out (by kernel_rfl)) (fun _ _ _ h => h) (Or.inl ⟨by rfl, ?_⟩) ?_ ?_
     rotate_left
     ·intro w'
      go_simp
      with_reducible rfl
     rotate_left
     ·simp only [Act.put, Y14, Y15, Y16, i64_w]
      rfl
     refine done_ (done_of HT_.out (by kernel_rfl)) ?_
     try go_wp2
     go_roundg k2
     case measure => have := HJ3.out; have := HK2.out; omega
     case rel => exact ⟨(wrap64 (x7_2 + 1)), (by first | rfl | (simp; done) | (simp [*]; done)), H', ⟨by have := HJ3.out; have := HK2.out; omega⟩, ⟨by (with_reducible repeat first | apply Y11 | apply Y13 | apply Y12); exact BK396.out⟩, ⟨by (with_reducible repeat first | apply Y11 | apply Y13 | apply Y12); exact BK397.out⟩, ⟨by repeat (with_reducible first | exact HB.out | apply Y3 | apply Y1 | apply Y2 | refine Y4 ?_ GE396.out | refine Y4 ?_ GE397.out)⟩⟩
mutual
def sameB : NodeS → NodeS → Bool
 | ⟨k, t, n, _, l⟩, ⟨k', t', n', _, l'⟩ => if k = k' then (if t.toList = t'.toList then (if n = n' then sameL l l' else false) else false) else false
def sameL : List NodeS → List NodeS → Bool
 | [], [] => true
 | x :: r, y :: s => sameB x y && sameL r s
 | [], _ :: _ => false
 | _ :: _, [] => false
end
theorem sameL_len (l : List NodeS) : ∀ m, l.length ≠ m.length → sameL l m = false := by
 induction l with
 | nil => intro m h; cases m with
  | nil => exact absurd rfl h
  | cons => rfl
 | cons x r ih => intro m h; cases m with
  | nil => rfl
  | cons y s => rw [sameL, ih s (by simpa using h), Bool.and_false]
theorem sameL_step (l m : List NodeS) (k : Nat) (hk : k < l.length) (hm : k < m.length) : sameL (l.drop k) (m.drop k) = (sameB l[k] m[k] && sameL (l.drop (k + 1)) (m.drop (k + 1))) := by
 rw [List.drop_eq_getElem_cons hk, List.drop_eq_getElem_cons hm, sameL]
def SamePost (w : World) (b : Bool) (e : Ending) (w' : World) : Prop := e = .returned (.bool b) ∧ Below w.heap.size w w'
set_option maxRecDepth 100000 in
set_option maxHeartbeats 4000000 in
theorem equal_nodes (l m : List NodeS) (A A2 : Option Addr) (c c2 : Nat) (w : World) (hl : l.length ≤ 140737488351232) (hm : m.length ≤ 140737488351232) (hC : k39.C w A l.length l) (hC2 : k39.C w A2 m.length m) (hc : l.length ≤ c) (hc2 : m.length ≤ c2)
  (ih : ∀ (y : NodeAt w l) (z : NodeAt w m) (W : World), Below w.heap.size w W → Calls Tryd.prog 32 #[.agg y.1.2, .agg z.1.2] W (SamePost W (sameB y.1.1 z.1.1))) :
  Calls Tryd.prog 53 #[.slice A l.length c, .slice A2 m.length c2, .func (.func 32) #[] #[]] w (SamePost w (sameL l m)) := by
 have IH := Y0 ih
 have HC := Y0 hC
 have HC2 := Y0 hC2
 clear ih hC hC2
 by_cases hlen : l.length = m.length
 ·have d1 : ((l.length : Int) != (m.length : Int)) = false := by rw [bne_eq_false_iff_eq]; omega
  have HLEN := Y0 hlen
  clear hlen
  go_enter Tryd.func53, Tryd.ntmps53
  go_wp2
  go_loopg [17] l.length (fun n v W => ∃ i : Nat, v = .int .i64 i ∧ Aside0 (sameL (l.drop i) (m.drop i) = sameL l m) ∧ Aside0 (Below w.heap.size w W) ∧ Aside0 (i + n = l.length))
  case atStart => exact ⟨0, rfl, ⟨rfl⟩, ⟨Below.refl _ _⟩, ⟨by omega⟩⟩
  case round =>
   obtain ⟨i, rfl, HS, HB, HN⟩ := hrel
   by_cases hlt : i < l.length
   ·have hlt2 : i < m.length := by have := HLEN.out; omega
    have HT := Y0 ((sameL_step l m i hlt hlt2).symm.trans HS.out)
    clear HS
    obtain ⟨y, ad, A4, c4, hy1, hA, hy2, g0, g1, g2, g3, g4⟩ := nodeAt_get HC.out i hlt rfl
    obtain ⟨z, ad2, A42, c42, hz1, hA2, hz2, f0, f1, f2, f3, f4⟩ := nodeAt_get HC2.out i hlt2 rfl
    cases hA
    cases hA2
    have hx0 := (HB.out.cell (World.block_lt_of_cell? w _ g0)).trans g0
    have hx1 := (HB.out.cell (World.block_lt_of_cell? w _ g1)).trans g1
    have hx2 := (HB.out.cell (World.block_lt_of_cell? w _ g2)).trans g2
    have hx3 := (HB.out.cell (World.block_lt_of_cell? w _ g3)).trans g3
    have hx4 := (HB.out.cell (World.block_lt_of_cell? w _ g4)).trans g4
    have hw0 := (HB.out.cell (World.block_lt_of_cell? w _ f0)).trans f0
    have hw1 := (HB.out.cell (World.block_lt_of_cell? w _ f1)).trans f1
    have hw2 := (HB.out.cell (World.block_lt_of_cell? w _ f2)).trans f2
    have hw3 := (HB.out.cell (World.block_lt_of_cell? w _ f3)).trans f3
    have hw4 := (HB.out.cell (World.block_lt_of_cell? w _ f4)).trans f4
    have hv0 := pw_cell_below (below_alloc (Below.refl _ wr) (.cells #[.int .i64 l[i].f0, .string l[i].f1, .int .i64 l[i].f2, .int .i64 l[i].f3, .slice A4 l[i].f4.length c4] 39 (0, 0))) hw0
    have hv1 := pw_cell_below (below_alloc (Below.refl _ wr) (.cells #[.int .i64 l[i].f0, .string l[i].f1, .int .i64 l[i].f2, .int .i64 l[i].f3, .slice A4 l[i].f4.length c4] 39 (0, 0))) hw1
    have hv2 := pw_cell_below (below_alloc (Below.refl _ wr) (.cells #[.int .i64 l[i].f0, .string l[i].f1, .int .i64 l[i].f2, .int .i64 l[i].f3, .slice A4 l[i].f4.length c4] 39 (0, 0))) hw2
    have hv3 := pw_cell_below (below_alloc (Below.refl _ wr) (.cells #[.int .i64 l[i].f0, .string l[i].f1, .int .i64 l[i].f2, .int .i64 l[i].f3, .slice A4 l[i].f4.length c4] 39 (0, 0))) hw3
    have hv4 := pw_cell_below (below_alloc (Below.refl _ wr) (.cells #[.int .i64 l[i].f0, .string l[i].f1, .int .i64 l[i].f2, .int .i64 l[i].f3, .slice A4 l[i].f4.length c4] 39 (0, 0))) hw4
    clear g0 g1 g2 g3 g4 f0 f1 f2 f3 f4 hw0 hw1 hw2 hw3 hw4
    have HIY := Y0 (fun W hW => IH.out y z W hW)
    rw [hy1, hz1, hy2, hz2] at HIY
    clear hy1 hz1 hy2 hz2 y z
    generalize sameB l[i] m[i] = b at *
    cases gk with
    | zero => have := HN.out; omega
    | succ k1 =>
     cases b
     ·have hF : Aside0 (false = sameL l m) := ⟨by rw [← HT.out, Bool.false_and]⟩
      clear HT
      go_wp2_with (go_at_call 32; refine (HIY.out _ (below_alloc (below_alloc HB.out _) _)).mono ?_; rintro e W1 ⟨rfl, hB1⟩)
      go_ret
      exact ⟨by rw [← hF.out]; rfl, below_step (below_alloc (below_alloc HB.out _) _) hB1⟩
     ·have hT : Aside0 (sameL (l.drop (i + 1)) (m.drop (i + 1)) = sameL l m) := ⟨by rw [← HT.out, Bool.true_and]⟩
      clear HT
      go_wp2_with (go_at_call 32; refine (HIY.out _ (below_alloc (below_alloc HB.out _) _)).mono ?_; rintro e W1 ⟨rfl, hB1⟩)
      go_roundg k1
      case measure => omega
      case rel => exact ⟨i + 1, by simp, hT, ⟨below_step (below_alloc (below_alloc HB.out _) _) hB1⟩, ⟨by have := HN.out; omega⟩⟩
   ·have hF : Aside0 (true = sameL l m) := ⟨by rw [← HS.out, List.drop_of_length_le (by omega), List.drop_of_length_le (by have := HLEN.out; omega)]; rfl⟩
    clear HS
    go_wp2
    go_ret
    exact ⟨by rw [← hF.out]; rfl, HB.out⟩
 ·have d1 : ((l.length : Int) != (m.length : Int)) = true := by rw [bne_iff_ne]; omega
  have HF := Y0 (sameL_len l m hlen)
  clear hlen
  go_enter Tryd.func53, Tryd.ntmps53
  rw [HF.out]
  go_wp2
  go_ret
  exact ⟨rfl, Below.refl _ _⟩
set_option maxRecDepth 100000 in
set_option maxHeartbeats 4000000 in
theorem same_any : ∀ (N : Nat) (k : Int) (t : ByteArray) (n a : Int) (l : List NodeS) (k' : Int) (t' : ByteArray) (n' a' : Int) (l' : List NodeS) (A A2 : Option Addr) (c c2 : Nat) (w : World), SizeOf.sizeOf (⟨k, t, n, a, l⟩ : NodeS) ≤ N → smallB ⟨k, t, n, a, l⟩ = true → smallB ⟨k', t', n', a', l'⟩ = true →
  k39.C w A l.length l → l.length ≤ c → k39.C w A2 l'.length l' → l'.length ≤ c2 →
  Calls Tryd.prog 32 #[.agg #[.int .i64 k, .string t, .int .i64 n, .int .i64 a, .slice A l.length c], .agg #[.int .i64 k', .string t', .int .i64 n', .int .i64 a', .slice A2 l'.length c2]] w (SamePost w (sameB ⟨k, t, n, a, l⟩ ⟨k', t', n', a', l'⟩)) := by
 intro N
 induction N with
 | zero => intro k t n a l k' t' n' a' l' A A2 c c2 w h; simp [S39.mk.sizeOf_spec] at h
 | succ N ihN =>
  intro k t n a l k' t' n' a' l' A A2 c c2 w hN hs hs' hC hc hC2 hc2
  obtain ⟨s1, s2⟩ := small_open _ hs
  obtain ⟨s3, s4⟩ := small_open _ hs'
  have HQ := fun (W : World) (hB : Below w.heap.size w W) => equal_nodes l l' A A2 c c2 W s1 s3 (Kd.C_below hC hB) (Kd.C_below hC2 hB) hc hc2 (by
   rintro ⟨⟨⟨k1, t1, n1, a1, l1⟩, cs1⟩, hm1, hK1⟩ ⟨⟨⟨k2, t2, n2, a2, l2⟩, cs2⟩, hm2, hK2⟩ W2 hB2
   obtain ⟨A4, c4, e, h1, h2⟩ := node_cells (⟨(⟨k1, t1, n1, a1, l1⟩, cs1), hm1, hK1⟩ : NodeAt W l)
   obtain ⟨A5, c5, e5, h3, h4⟩ := node_cells (⟨(⟨k2, t2, n2, a2, l2⟩, cs2), hm2, hK2⟩ : NodeAt W l')
   have hz := size_in ⟨k, t, n, a, l⟩ ⟨k1, t1, n1, a1, l1⟩ hm1
   dsimp only at e e5 h1 h2 h3 h4 hz ⊢
   rw [e, e5]
   exact ihN k1 t1 n1 a1 l1 k2 t2 n2 a2 l2 A4 A5 c4 c5 W2 (by omega) (s2 _ hm1) (s4 _ hm2) (Kd.C_below h2 hB2) h1 (Kd.C_below h4 hB2) h3)
  have HQ := Y0 HQ
  clear hC hC2 ihN hs hs' hN s2 s4
  have hV : Aside0 (sameB ⟨k, t, n, a, l⟩ ⟨k', t', n', a', l'⟩ = if k = k' then (if t.toList = t'.toList then (if n = n' then sameL l l' else false) else false) else false) := ⟨by rw [sameB]⟩
  have b0 := fun o o2 => Y0 (below_alloc (below_alloc (Below.refl w.heap.size w) o) o2)
  by_cases h1 : k = k'
  ·have b1 := beq_lit h1
   by_cases h2 : t.toList = t'.toList
   ·have b2 : (t.toList == t'.toList) = true := beq_iff_eq.2 h2
    by_cases h3 : n = n'
    ·have b3 := beq_lit h3
     have hF : Aside0 (sameL l l' = sameB ⟨k, t, n, a, l⟩ ⟨k', t', n', a', l'⟩) := ⟨by rw [hV.out, if_pos h1, if_pos h2, if_pos h3]⟩
     clear hV h1 h2 h3
     go_enter Tryd.func32, Tryd.ntmps32
     go_wp2_with (go_at_call 53; refine (HQ.out _ (below_alloc (below_alloc (Below.refl _ _) _) _)).mono ?_; rintro e W1 ⟨rfl, hB1⟩)
     go_ret
     exact ⟨by rw [← hF.out]; rfl, below_step (below_alloc (below_alloc (Below.refl _ _) _) _) hB1⟩
    ·have b3 := beq_no h3
     have hF : Aside0 (false = sameB ⟨k, t, n, a, l⟩ ⟨k', t', n', a', l'⟩) := ⟨by rw [hV.out, if_pos h1, if_pos h2, if_neg h3]⟩
     clear hV h1 h2 h3
     go_enter Tryd.func32, Tryd.ntmps32
     go_wp2
     go_ret
     exact ⟨by rw [← hF.out]; rfl, below_alloc (below_alloc (Below.refl _ _) _) _⟩
   ·have b2 : (t.toList == t'.toList) = false := beq_eq_false_iff_ne.2 h2
    have hF : Aside0 (false = sameB ⟨k, t, n, a, l⟩ ⟨k', t', n', a', l'⟩) := ⟨by rw [hV.out, if_pos h1, if_neg h2]⟩
    clear hV h1 h2
    go_enter Tryd.func32, Tryd.ntmps32
    go_wp2
    go_ret
    exact ⟨by rw [← hF.out]; rfl, below_alloc (below_alloc (Below.refl _ _) _) _⟩
  ·have b1 := beq_no h1
   have hF : Aside0 (false = sameB ⟨k, t, n, a, l⟩ ⟨k', t', n', a', l'⟩) := ⟨by rw [hV.out, if_neg h1]⟩
   clear hV h1
   go_enter Tryd.func32, Tryd.ntmps32
   go_wp2
   go_ret
   exact ⟨by rw [← hF.out]; rfl, below_alloc (below_alloc (Below.refl _ _) _) _⟩
def sexp_Same.f (a0_0 : Int) (a0_1 : ByteArray) (a0_2 : Int) (a0_3 : Int) (l0_4 : List NodeS) (a1_0 : Int) (a1_1 : ByteArray) (a1_2 : Int) (a1_3 : Int) (l1_4 : List NodeS) : Option Bool :=
 if smallB ⟨a0_0, a0_1, a0_2, a0_3, l0_4⟩ = true ∧ smallB ⟨a1_0, a1_1, a1_2, a1_3, l1_4⟩ = true then some (sameB ⟨a0_0, a0_1, a0_2, a0_3, l0_4⟩ ⟨a1_0, a1_1, a1_2, a1_3, l1_4⟩) else none
theorem sexp_Same.calls (a0_0 : Int) (a0_1 : ByteArray) (a0_2 : Int) (a0_3 : Int) (A0_4 : Option Addr) (c0_4 : Nat) (l0_4 : List (S39)) (a1_0 : Int) (a1_1 : ByteArray) (a1_2 : Int) (a1_3 : Int) (A1_4 : Option Addr) (c1_4 : Nat) (l1_4 : List (S39)) (r : Bool) (w : World)
  (hr0_4 : Kd.C k39 w A0_4 l0_4.length l0_4) (hc0_4 : l0_4.length ≤ c0_4) (hr1_4 : Kd.C k39 w A1_4 l1_4.length l1_4) (hc1_4 : l1_4.length ≤ c1_4) (h : sexp_Same.f a0_0 a0_1 a0_2 a0_3 l0_4 a1_0 a1_1 a1_2 a1_3 l1_4 = some r) :
  Calls Tryd.prog 32 #[.agg #[.int .i64 a0_0, .string a0_1, .int .i64 a0_2, .int .i64 a0_3, .slice A0_4 l0_4.length c0_4], .agg #[.int .i64 a1_0, .string a1_1, .int .i64 a1_2, .int .i64 a1_3, .slice A1_4 l1_4.length c1_4]] w fun e w' => e = .returned (.bool r) ∧ Below w.heap.size w w' := by
 unfold sexp_Same.f at h
 split at h
 ·rename_i hs
  obtain rfl := Option.some.inj h
  exact same_any _ _ _ _ _ _ _ _ _ _ _ _ _ _ _ _ (Nat.le_refl _) hs.1 hs.2 hr0_4 hc0_4 hr1_4 hc1_4
 ·cases h
def sepL (b : List UInt8) : Prop := ∀ c r, b = c :: r → nameU c = false ∧ numU c = false
theorem takeWhile_sep (p : UInt8 → Bool) (b : List UInt8) (hb : ∀ c r, b = c :: r → p c = false) (l : List UInt8) : (l ++ b).takeWhile p = l.takeWhile p := by
 induction l with
 | nil => cases b with
  | nil => rfl
  | cons c r => simp [hb c r rfl]
 | cons x r ih => simp only [List.cons_append, List.takeWhile_cons, ih]
theorem runN_sep (p : UInt8 → Bool) (b : List UInt8) (hb : ∀ c r, b = c :: r → p c = false) (x : UInt8) (r : List UInt8) : runN p (x :: (r ++ b)) = runN p (x :: r) := by
 simp only [runN]
 rw [takeWhile_sep p b hb]
theorem run_take (p : UInt8 → Bool) (c : UInt8) (r : List UInt8) : (c :: r).take (runN p (c :: r)) = c :: r.takeWhile p := by
 simp only [runN]
 rw [Nat.add_comm, List.take_succ_cons]
 congr 1
 exact (List.prefix_iff_eq_take.1 (List.takeWhile_prefix p)).symm
theorem lex1_sep (a b : List UInt8) (hb : sepL b) (y) (h : lex1 a = some y) : lex1 (a ++ b) = some y := by
 cases a with
 | nil => cases h
 | cons c r =>
  have hn : ∀ c r, b = c :: r → nameU c = false := fun c r e => (hb c r e).1
  have hu : ∀ c r, b = c :: r → numU c = false := fun c r e => (hb c r e).2
  rw [List.cons_append, lex1_cons, run_take, run_take, takeWhile_sep nameU b hn, takeWhile_sep numU b hu, runN_sep nameU b hn, runN_sep numU b hu, ← run_take, ← run_take]
  rw [lex1_cons] at h
  split at h
  ·cases h
  ·rename_i h4
   rw [if_neg h4]
   split at h
   ·rename_i h0; rw [if_pos h0]; exact h
   ·rename_i h0
    rw [if_neg h0]
    split at h
    ·rename_i h1; rw [if_pos h1]; exact h
    ·rename_i h1
     rw [if_neg h1]
     split at h
     ·rename_i h2
      rw [if_pos h2]
      obtain ⟨⟨t', n'⟩, h3, h4⟩ := Option.map_eq_some_iff.mp h
      rw [strL_app b _ _ r t' n' h3 (by simp), ← h4]; rfl
     ·rename_i h2
      rw [if_neg h2]; exact h
theorem takeWhile_twice (p : UInt8 → Bool) (l : List UInt8) : (l.takeWhile p).takeWhile p = l.takeWhile p := by
 induction l with
 | nil => rfl
 | cons x r ih =>
  by_cases hx : p x = true
  ·simp [List.takeWhile_cons, hx, ih]
  ·simp [List.takeWhile_cons, hx]
def selfT (kd : Int) (t : List UInt8) (v : Int) : Prop := (kd = 0 ∨ kd = 1) ∧ lex1 t = some (kd, t, v, t.length)
theorem runN_self (p : UInt8 → Bool) (c : UInt8) (r : List UInt8) : runN p (c :: r.takeWhile p) = (c :: r.takeWhile p).length := by
 simp only [runN, takeWhile_twice, List.length_cons]
 omega
theorem lex1_tok (l : List UInt8) (kd : Int) (t : List UInt8) (v : Int) (n : Nat) (h : lex1 l = some (kd, t, v, n)) :
  (selfT kd t v ∧ t.length ≤ l.length) ∨ (kd = 2 ∧ v = 0) ∨ (kd = 3 ∧ v = 0 ∧ t.length = 1) := by
 cases l with
 | nil => cases h
 | cons c r =>
  rw [lex1_cons] at h
  split at h
  ·cases h
  ·rename_i h4
   split at h
   ·rename_i h0
    simp only [Option.some.injEq, Prod.mk.injEq] at h
    obtain ⟨rfl, rfl, rfl, rfl⟩ := h
    refine .inl ⟨⟨.inl rfl, ?_⟩, by rw [List.length_take]; omega⟩
    rw [run_take, lex1_cons, if_neg h4, if_pos h0, runN_self, List.take_length]
   ·rename_i h0
    split at h
    ·rename_i h1
     split at h
     ·rename_i hok
      simp only [Option.some.injEq, Prod.mk.injEq] at h
      obtain ⟨rfl, rfl, rfl, rfl⟩ := h
      refine .inl ⟨⟨.inr rfl, ?_⟩, by rw [List.length_take]; omega⟩
      rw [run_take] at hok ⊢
      rw [lex1_cons, if_neg h4, if_neg h0, if_pos h1, runN_self, List.take_length, if_pos hok]
     ·cases h
    ·rename_i h1
     split at h
     ·obtain ⟨⟨t', n'⟩, h3, h5⟩ := Option.map_eq_some_iff.mp h
      simp only [Prod.mk.injEq] at h5
      obtain ⟨rfl, rfl, rfl, rfl⟩ := h5
      exact .inr (.inl ⟨rfl, rfl⟩)
     ·simp only [Option.some.injEq, Prod.mk.injEq] at h
      obtain ⟨rfl, rfl, rfl, rfl⟩ := h
      exact .inr (.inr ⟨rfl, rfl, rfl⟩)
theorem skip_tok (c : UInt8) (r : List UInt8) (h : ofK (c.toNat : Int) ≠ 4) : skipN false (c :: r) = 0 := by
 rw [skipN_f]
 have hb : blankB c = false := by
  unfold blankB
  have e1 : (c == 32) = false := by rw [beq_eq_false_iff_ne]; rintro rfl; exact h (by decide)
  have e2 : (c == 9) = false := by rw [beq_eq_false_iff_ne]; rintro rfl; exact h (by decide)
  have e3 : (c == 10) = false := by rw [beq_eq_false_iff_ne]; rintro rfl; exact h (by decide)
  have e4 : (c == 13) = false := by rw [beq_eq_false_iff_ne]; rintro rfl; exact h (by decide)
  rw [e1, e2, e3, e4]; rfl
 rw [hb, if_neg (by simp), if_neg]
 rintro ⟨rfl, _⟩
 exact h (by decide)
theorem lex1_first (a : List UInt8) (y) (h : lex1 a = some y) : ∃ c r, a = c :: r ∧ ofK (c.toNat : Int) ≠ 4 := by
 cases a with
 | nil => cases h
 | cons c r =>
  refine ⟨c, r, rfl, fun e => ?_⟩
  rw [lex1_cons, if_pos e] at h
  cases h
theorem scan_one (m p : Nat) (a b : List UInt8) (kd : Int) (t : List UInt8) (v : Int) (n : Nat) (h : lex1 a = some (kd, t, v, n)) (hn : n = a.length) (hb : sepL b) :
  scan m p (a ++ b) = if m = 0 then .inr (p, 2) else preE [⟨kd, ⟨t.toArray⟩, v, p⟩] (scan (m - 1) (p + a.length) b) := by
 obtain ⟨c, r, rfl, hc⟩ := lex1_first a _ h
 have h2 := lex1_sep (c :: r) b hb _ h
 unfold scan
 rw [List.cons_append, skip_tok c (r ++ b) hc, Nat.add_zero, List.drop_zero, lx_cons]
 rw [List.cons_append] at h2
 rw [h2]
 simp only
 rw [← List.cons_append, hn, List.drop_left]
 rfl
theorem scan_nil (m p : Nat) : scan m p [] = .inl [] := rfl
theorem scan_cases (m p : Nat) (a : List UInt8) (ts : List TokS) (h : scan m p a = .inl ts) : ts = [] ∨ ∃ (k : Nat) (kd : Int) (t : List UInt8) (v : Int) (n : Nat) (us : List TokS),
  lex1 (a.drop k) = some (kd, t, v, n) ∧ 1 ≤ n ∧ k + n ≤ a.length ∧ 0 < m ∧ scan (m - 1) (p + k + n) (a.drop (k + n)) = .inl us ∧ ts = ⟨kd, ⟨t.toArray⟩, v, ((p + k : Nat) : Int)⟩ :: us := by
 unfold scan at h
 have hk := skipN_le false a
 generalize skipN false a = k at h hk
 cases hl : a.drop k with
 | nil => rw [hl, lx_nil] at h; simp only [Sum.inl.injEq] at h; exact .inl h.symm
 | cons c r =>
  have hz := congrArg List.length hl
  rw [List.length_drop, List.length_cons] at hz
  rw [hl, lx_cons] at h
  cases hx : lex1 (c :: r) with
  | none => rw [hx] at h; cases h
  | some y =>
   obtain ⟨kd, t, v, n⟩ := y
   obtain ⟨n1, n2⟩ := lex1_le _ _ _ _ _ hx
   rw [List.length_cons] at n2
   rw [hx] at h
   simp only at h
   split at h
   ·cases h
   ·rename_i hm
    cases hs : scan (m - 1) (p + k + n) ((c :: r).drop n) with
    | inr e => rw [hs] at h; cases h
    | inl us =>
     rw [hs] at h
     simp only [preE, Sum.inl.injEq] at h
     refine .inr ⟨k, kd, t, v, n, us, by rw [hl]; exact hx, n1, by omega, by omega, ?_, ?_⟩
     ·rw [← List.drop_drop, hl]; exact hs
     ·rw [← h]; rfl
def tokOk (t : TokS) : Prop := selfT t.f0 (bl t.f1) t.f2 ∨ (t.f0 = 2 ∧ t.f2 = 0) ∨ (t.f0 = 3 ∧ t.f2 = 0 ∧ (bl t.f1).length = 1)
def incT : Int → List TokS → Prop
 | _, [] => True
 | b, t :: ts => b ≤ t.f3 ∧ incT (t.f3 + 1) ts
theorem incT_mono : ∀ (ts : List TokS) (b c : Int), c ≤ b → incT b ts → incT c ts
 | [], _, _, _, _ => trivial
 | _ :: _, _, _, h, ⟨h1, h2⟩ => ⟨by omega, h2⟩
theorem scan_facts : ∀ (d m p : Nat) (a : List UInt8) (ts : List TokS), a.length ≤ d → scan m p a = .inl ts →
  (∀ t ∈ ts, tokOk t ∧ (selfT t.f0 (bl t.f1) t.f2 → t.f1.size ≤ a.length) ∧ t.f3 < p + a.length) ∧ incT p ts := by
 intro d
 induction d with
 | zero =>
  intro m p a ts hd h
  obtain rfl : a = [] := List.length_eq_zero_iff.mp (by omega)
  rw [scan_nil] at h
  injection h with h
  subst h
  exact ⟨fun t ht => (by cases ht), trivial⟩
 | succ d ih =>
  intro m p a ts hd h
  rcases scan_cases m p a ts h with rfl | ⟨k, kd, t, v, n, us, hx, hn, hk, hm, hs, rfl⟩
  ·exact ⟨fun t ht => (by cases ht), trivial⟩
  ·obtain ⟨g1, g2⟩ := ih _ _ _ _ (by rw [List.length_drop]; omega) hs
   refine ⟨fun u hu => ?_, ?_⟩
   ·rcases List.mem_cons.1 hu with rfl | hu
    ·have hl := lex1_tok _ _ _ _ _ hx
     refine ⟨Or.elim hl (fun hl => .inl hl.1) (fun hl => .inr hl), fun hself => ?_, by show ((p + k : Nat) : Int) < _; omega⟩
     ·show (⟨t.toArray⟩ : ByteArray).size ≤ a.length
      rw [← bl_length]
      show t.length ≤ a.length
      have h9 : kd = 0 ∨ kd = 1 := hself.1
      rcases hl with hl | hl | hl
      ·have := hl.2; rw [List.length_drop] at this; omega
      ·exfalso; have := hl.1; omega
      ·exfalso; have := hl.1; omega
    ·obtain ⟨q1, q2, q3⟩ := g1 u hu
     rw [List.length_drop] at q2 q3
     exact ⟨q1, fun hh => by have := q2 hh; omega, by omega⟩
   ·refine ⟨by show (p : Int) ≤ ((p + k : Nat) : Int); omega, incT_mono us _ _ ?_ g2⟩
    show ((p + k : Nat) : Int) + 1 ≤ ((p + k + n : Nat) : Int)
    omega
theorem hexI_hexB : ∀ n : Fin 16, hexI (hexB n.val) = n.val := by decide
theorem byte_eq (a b : UInt8) (h : a.toNat = b.toNat) : a = b := UInt8.toNat_inj.mp h
theorem strL_quote (l : List UInt8) (rest : List UInt8) : ∀ f, l.length < f → strL f (l.flatMap quote1 ++ 34 :: rest) = some (l, (l.flatMap quote1).length + 1) := by
 induction l with
 | nil =>
  intro f hf
  obtain ⟨f, rfl⟩ : ∃ m, f = m + 1 := ⟨f - 1, by simp at hf; omega⟩
  simp [strL]
 | cons c r ih =>
  intro f hf
  obtain ⟨f, rfl⟩ : ∃ m, f = m + 1 := ⟨f - 1, by omega⟩
  have hf2 : r.length < f := by simp only [List.length_cons] at hf; omega
  have ih2 := ih f hf2
  have hc := c.toNat_lt
  simp only [List.flatMap_cons, List.append_assoc]
  rw [quote1_nat]
  by_cases h1 : c.toNat = 34 ∨ c.toNat = 92
  ·rw [if_pos h1]
   simp only [List.cons_append, List.nil_append, strL]
   rw [if_neg (by decide), if_pos trivial]
   have hm : markL (c :: (r.flatMap quote1 ++ 34 :: rest)) = some (c, 1) := by
    rcases h1 with h | h
    ·obtain rfl : c = 34 := byte_eq c 34 h
     simp [markL]
    ·obtain rfl : c = 92 := byte_eq c 92 h
     simp [markL]
   rw [hm]
   simp only [List.drop_succ_cons, List.drop_zero, ih2, Option.map_some]
   simp; omega
  ·rw [if_neg h1]
   by_cases h2 : c.toNat = 10
   ·rw [if_pos h2]
    obtain rfl : c = 10 := byte_eq c 10 h2
    simp only [List.cons_append, List.nil_append, strL]
    rw [if_neg (by decide), if_pos trivial]
    have hm : markL (110 :: (r.flatMap quote1 ++ 34 :: rest)) = some (10, 1) := by simp [markL]
    rw [hm]
    simp only [List.drop_succ_cons, List.drop_zero, ih2, Option.map_some]
    simp; omega
   ·rw [if_neg h2]
    by_cases h3 : c.toNat < 32 ∨ 126 < c.toNat
    ·rw [if_pos h3]
     simp only [List.cons_append, List.nil_append, strL]
     rw [if_neg (by decide), if_pos trivial]
     have ha := hexI_hexB ⟨c.toNat / 16, by omega⟩
     have hb := hexI_hexB ⟨c.toNat % 16, by omega⟩
     simp only at ha hb
     have hm : markL (120 :: hexB (c.toNat / 16) :: hexB (c.toNat % 16) :: (r.flatMap quote1 ++ 34 :: rest)) = some (c, 3) := by
      simp only [markL]
      rw [if_neg (by decide), if_neg (by decide), if_neg (by decide), if_pos trivial, ha, hb, if_pos ⟨by omega, by omega⟩]
      have : UInt8.ofNat ((c.toNat / 16) * 16 + c.toNat % 16) = c := by
       apply byte_eq
       rw [UInt8.toNat_ofNat', Nat.mod_eq_of_lt (by omega)]
       omega
      simp only [Int.toNat_natCast, this]
     rw [hm]
     simp only [List.drop_succ_cons, List.drop_zero, ih2, Option.map_some]
     simp; omega
    ·rw [if_neg h3]
     simp only [List.cons_append, List.nil_append, strL]
     have n1 : ¬ c = 34 := fun e => h1 (.inl (by rw [e]; rfl))
     have n2 : ¬ c = 92 := fun e => h1 (.inr (by rw [e]; rfl))
     have n3 : ¬ c < 32 := by rw [UInt8.lt_iff_toNat_lt]; show ¬ c.toNat < 32; omega
     have n4 : ¬ c = 127 := fun e => h3 (.inr (by rw [e]; decide))
     rw [if_neg n1, if_neg n2, if_neg n3, if_neg n4, ih2]
     simp
abbrev Bare := Int × List UInt8 × Int
def bareT (t : TokS) : Bare := (t.f0, bl t.f1, t.f2)
mutual
def toksB : NodeS → List Bare
 | ⟨k, t, n, _, l⟩ => if k = 4 then (3, [40], 0) :: (toksBL l ++ [(3, [41], 0)]) else [(k, bl t, n)]
def toksBL : List NodeS → List Bare
 | [] => []
 | x :: r => toksB x ++ toksBL r
end
mutual
def leafB : NodeS → Bool
 | ⟨k, t, n, _, l⟩ => if k = 4 then n == 0 && (t.toList == [] && leafL l) else decide (l.length = 0) && (if k = 0 ∨ k = 1 then aloneB k t n else if k = 2 then n == 0 else if k = 3 then n == 0 && t.toList == [46] else false)
def leafL : List NodeS → Bool
 | [] => true
 | x :: r => leafB x && leafL r
end
mutual
def hgt : NodeS → Nat
 | ⟨k, _, _, _, l⟩ => if k = 4 then 1 + hgtL l else 0
def hgtL : List NodeS → Nat
 | [] => 0
 | x :: r => max (hgt x) (hgtL r)
end
theorem leafL_all (l : List NodeS) : leafL l = true ↔ ∀ x ∈ l, leafB x = true := by
 induction l with
 | nil => simp [leafL]
 | cons x r ih => rw [leafL, Bool.and_eq_true, ih]; simp
theorem hgtL_le (l : List NodeS) (m : Nat) : hgtL l ≤ m ↔ ∀ x ∈ l, hgt x ≤ m := by
 induction l with
 | nil => simp [hgtL]
 | cons x r ih => rw [hgtL, Nat.max_le, ih]; simp
theorem toList_nil (t : ByteArray) : (t.toList == []) = true ↔ bl t = [] := by rw [beq_iff_eq, toList_bl]
theorem may_iff : ∀ (N : Nat) (x : NodeS) (d : Nat), SizeOf.sizeOf x ≤ N → d ≤ 16 → (mayB x (d : Int) = true ↔ leafB x = true ∧ (hgt x = 0 ∨ d + hgt x ≤ 16)) := by
 intro N
 induction N with
 | zero => intro x d hN hd; obtain ⟨k, t, n, a, l⟩ := x; simp only [S39.mk.sizeOf_spec] at hN; omega
 | succ N ih =>
  intro x d hN hd
  obtain ⟨k, t, n, a, l⟩ := x
  by_cases h4 : k = 4
  ·subst h4
   rw [mayB, leafB, hgt, if_neg (by decide), if_neg (by decide), if_neg (by decide), if_pos rfl, if_pos rfl, if_pos rfl]
   simp only [Bool.and_eq_true, decide_eq_true_eq]
   rw [leafL_all, mayL_all, List.all_eq_true]
   by_cases h16 : d < 16
   ·have hw : wrap64 ((d : Int) + 1) = ((d + 1 : Nat) : Int) := by rw [wrap_small _ (by omega) (by omega)]; omega
    rw [hw]
    have hm : ∀ y ∈ l, (mayB y ((d + 1 : Nat) : Int) = true ↔ leafB y = true ∧ (hgt y = 0 ∨ d + 1 + hgt y ≤ 16)) := fun y hy => ih y (d + 1) (by have := size_in ⟨4, t, n, a, l⟩ y hy; omega) (by omega)
    have hh := hgtL_le l (16 - (d + 1))
    constructor
    ·rintro ⟨h1, h2, h3, h5⟩
     refine ⟨⟨h2, h3, fun y hy => ((hm y hy).1 (h1 y hy)).1⟩, .inr ?_⟩
     have := hh.2 (fun y hy => by rcases ((hm y hy).1 (h1 y hy)).2 with h6 | h6 <;> omega)
     omega
    ·rintro ⟨⟨h2, h3, h1⟩, h5⟩
     refine ⟨fun y hy => (hm y hy).2 ⟨h1 y hy, ?_⟩, h2, h3, by omega⟩
     have := hh.1 (by omega) y hy
     omega
   ·constructor
    ·rintro ⟨h1, h2, h3, h5⟩; omega
    ·rintro ⟨_, h5⟩; omega
  ·rw [mayB, leafB, hgt, if_neg h4, if_neg h4, if_neg h4]
   by_cases h01 : k = 0 ∨ k = 1
   ·rw [if_pos h01, if_pos h01]; simp
   ·rw [if_neg h01, if_neg h01]
    by_cases h2 : k = 2
    ·rw [if_pos h2, if_pos h2]; simp
    ·rw [if_neg h2, if_neg h2]
     by_cases h3 : k = 3
     ·rw [if_pos h3, if_pos h3]; simp
     ·rw [if_neg h3, if_neg h3]; simp
theorem may_top (x : NodeS) : mayB x 0 = true ↔ leafB x = true ∧ hgt x ≤ 16 := by
 rw [show (0 : Int) = ((0 : Nat) : Int) from rfl, may_iff _ x 0 (Nat.le_refl _) (by omega)]
 constructor
 ·rintro ⟨h1, h2⟩; exact ⟨h1, by omega⟩
 ·rintro ⟨h1, h2⟩; exact ⟨h1, by omega⟩
theorem allF_big' (s : ByteArray) (h : 5000 < s.size) : (allF s).2.2 = 2 := by
 unfold allF
 rw [if_pos (by omega)]
theorem alone_iff (k : Int) (t : ByteArray) (n : Int) : aloneB k t n = true ↔ (t.size ≤ 5000 ∧ scan 1000 0 (bl t) = .inl [⟨k, t, n, 0⟩]) := by
 unfold aloneB sexp_alone.f
 by_cases hs : t.size ≤ 5000
 ·rw [all_small t hs]
  cases hx : scan 1000 0 (bl t) with
  | inr e =>
   obtain ⟨p, e⟩ := e
   have := scan_err _ _ _ _ _ _ (Nat.le_refl _) hx
   simp only [Option.bind_some, endL]
   rw [if_neg (by omega)]
   simp
  | inl ts =>
   simp only [Option.bind_some, endL, List.nil_append]
   rw [if_pos trivial]
   match ts with
   | [] => simp
   | [u] =>
    rw [if_pos (by simp), if_pos (by simp)]
    simp only [rd_T29, Int.toNat_zero, List.getD_cons_zero, Option.getD_some, Bool.and_eq_true, beq_iff_eq, toList_bl, hs, true_and, Sum.inl.injEq, List.cons.injEq, and_true]
    obtain ⟨f0, f1, f2, f3⟩ := u
    simp only [S29.mk.injEq]
    constructor
    ·rintro ⟨h1, h2, h3, h4⟩; exact ⟨h1, eq_of_bl h2, h3, h4⟩
    ·rintro ⟨h1, h2, h3, h4⟩; exact ⟨h1, by rw [h2], h3, h4⟩
   | u :: v :: r => rw [if_neg (by simp; omega)]; simp
 ·have hb := allF_big' t (by omega)
  unfold token_All.f
  simp only [Option.bind_some]
  rw [if_neg (by rw [hb]; decide)]
  simp [hs]
theorem alone_self (k : Int) (t : ByteArray) (n : Int) (hk : k = 0 ∨ k = 1) : aloneB k t n = true ↔ (t.size ≤ 5000 ∧ selfT k (bl t) n) := by
 rw [alone_iff]
 constructor
 ·rintro ⟨h1, h2⟩
  refine ⟨h1, hk, ?_⟩
  rcases scan_cases _ _ _ _ h2 with h | ⟨j, kd, t', v, m, us, hx, hn, hk', hm, hs, h⟩
  ·cases h
  ·simp only [List.cons.injEq, S29.mk.injEq] at h
   obtain ⟨⟨rfl, h3, rfl, h5⟩, h6⟩ := h
   have hj : j = 0 := by omega
   subst hj
   rw [List.drop_zero] at hx
   have h7 : bl t = t' := by rw [h3]
   rcases lex1_tok _ _ _ _ _ hx with h8 | h8 | h8
   ·rw [h7]; exact h8.1.2
   ·omega
   ·omega
 ·rintro ⟨h1, _, h2⟩
  refine ⟨h1, ?_⟩
  have := scan_one 1000 0 (bl t) [] k (bl t) n _ h2 rfl (fun c r h => by cases h)
  rw [List.append_nil, if_neg (by decide), scan_nil] at this
  rw [this]
  simp only [preE, List.append_nil, Int.natCast_zero]
theorem lex1_quote (l : List UInt8) : lex1 (quoteL l) = some (2, l, 0, (quoteL l).length) := by
 have hs := strL_quote l [] ((l.flatMap quote1 ++ [34]).length + 1) (by
  have : l.length ≤ (l.flatMap quote1).length := by
   induction l with
   | nil => simp
   | cons c r ih =>
    have h1 : 1 ≤ (quote1 c).length := by rw [quote1_nat]; split; simp; split; simp; split <;> simp
    rw [List.flatMap_cons, List.length_append, List.length_cons]; omega
  rw [List.length_append]; omega)
 have h34 : ofK ((34 : UInt8).toNat : Int) = 2 := by decide
 unfold quoteL
 rw [lex1_cons, h34, if_neg (by decide), if_neg (by decide), if_neg (by decide), if_pos rfl, hs]
 simp
theorem lex1_leaf (k : Int) (t : ByteArray) (n a : Int) (l : List NodeS) (h4 : k ≠ 4) (h : leafB ⟨k, t, n, a, l⟩ = true) : l = [] ∧ lex1 (textN ⟨k, t, n, a, l⟩) = some (k, bl t, n, (textN ⟨k, t, n, a, l⟩).length) := by
 rw [leafB, if_neg h4, Bool.and_eq_true, decide_eq_true_eq] at h
 obtain ⟨h0, h⟩ := h
 refine ⟨List.length_eq_zero_iff.1 h0, ?_⟩
 rw [textN]
 by_cases h01 : k = 0 ∨ k = 1
 ·rw [if_pos h01, alone_self k t n h01] at h
  rw [if_neg (by omega), if_neg h4]
  exact h.2.2
 ·rw [if_neg h01] at h
  by_cases h2 : k = 2
  ·rw [if_pos h2, beq_iff_eq] at h
   rw [if_pos h2, lex1_quote, h2, h]
  ·rw [if_neg h2] at h
   by_cases h3 : k = 3
   ·rw [if_pos h3, Bool.and_eq_true, beq_iff_eq, beq_iff_eq, toList_bl] at h
    rw [if_neg h2, if_neg h4, h.2, h3, h.1]
    first | done | decide
   ·rw [if_neg h3] at h; cases h
theorem sep_nil : sepL [] := fun c r h => by cases h
theorem sep_cons (c : UInt8) (r : List UInt8) (h1 : nameU c = false) (h2 : numU c = false) : sepL (c :: r) := fun d s h => by injection h with h3 _; subst h3; exact ⟨h1, h2⟩
mutual
/-- A node without where it begins. -/
def erN : NodeS → NodeS
 | ⟨k, t, n, _, l⟩ => ⟨k, t, n, 0, erL l⟩
def erL : List NodeS → List NodeS
 | [] => []
 | x :: r => erN x :: erL r
end
theorem doesI_bare (t : TokS) : doesI t = if t.f0 ≠ 3 ∨ bl t.f1 = [46] then 0 else if bl t.f1 = [40] then 1 else if bl t.f1 = [41] then 2 else 3 := by
 unfold doesI
 rw [toList_bl]
theorem does_open (t : TokS) (h : bareT t = (3, [40], 0)) : doesI t = 1 := by
 simp only [bareT, Prod.mk.injEq] at h
 rw [doesI_bare, h.1, h.2.1, if_neg (by decide), if_pos rfl]
theorem does_shut (t : TokS) (h : bareT t = (3, [41], 0)) : doesI t = 2 := by
 simp only [bareT, Prod.mk.injEq] at h
 rw [doesI_bare, h.1, h.2.1, if_neg (by decide), if_neg (by decide), if_pos rfl]
theorem top_snoc (st : List NodeS) (n : NodeS) : topN (st ++ [n]) = n := by
 unfold topN
 simp
theorem add_snoc (st : List NodeS) (n x : NodeS) : addTop (st ++ [n]) x = st ++ [⟨n.f0, n.f1, n.f2, n.f3, n.f4 ++ [x]⟩] := by
 unfold addTop
 rw [top_snoc]
 simp
theorem snoc_of (st : List NodeS) (h : 0 < st.length) : ∃ s n, st = s ++ [n] := by
 have hn : st ≠ [] := by intro e; rw [e] at h; simp at h
 exact ⟨st.dropLast, st.getLast hn, (List.dropLast_concat_getLast hn).symm⟩
theorem not_full (st : List NodeS) (n : NodeS) (h : 0 < st.length) : ¬ ((st ++ [n]).length = 1 ∧ (topN (st ++ [n])).f4.length = 1) := by
 rintro ⟨h1, _⟩
 rw [List.length_append, List.length_cons, List.length_nil] at h1
 omega
theorem node_eta (n : NodeS) (l : List NodeS) (h : n.f4 = l) : (⟨n.f0, n.f1, n.f2, n.f3, l⟩ : NodeS) = n := by
 obtain ⟨a, b, c, d, e⟩ := n
 simp only at h
 rw [h]
theorem parse_open (t : TokS) (ts : List TokS) (st : List NodeS) (h : doesI t = 1) (hf : ¬ (st.length = 1 ∧ (topN st).f4.length = 1)) : parseL (t :: ts) st = if st.length > 16 then .inr (t.f3, 2) else parseL ts (st ++ [⟨4, ⟨#[]⟩, 0, t.f3, []⟩]) := by
 rw [parseL, if_neg hf, h, if_neg (by decide), if_neg (by omega)]
 by_cases hl : st.length > 16
 ·rw [if_pos ⟨rfl, hl⟩, if_pos hl]
 ·rw [if_neg (fun h2 => hl h2.2), if_pos rfl, if_neg hl]
theorem parse_shut (t : TokS) (ts : List TokS) (st : List NodeS) (n : NodeS) (h : doesI t = 2) (hs : 0 < st.length) : parseL (t :: ts) (st ++ [n]) = parseL ts (addTop st n) := by
 rw [parseL, if_neg (not_full st n hs), h, if_neg (by decide), if_neg (by rintro ⟨_, h1⟩; rw [List.length_append, List.length_cons, List.length_nil] at h1; omega), if_neg (by omega), if_neg (by omega), if_pos rfl, top_snoc]
 simp
theorem parse_atom (t : TokS) (ts : List TokS) (st : List NodeS) (h : doesI t = 0) (hf : ¬ (st.length = 1 ∧ (topN st).f4.length = 1)) : parseL (t :: ts) st = parseL ts (addTop st ⟨t.f0, t.f1, t.f2, t.f3, []⟩) := by
 rw [parseL, if_neg hf, h, if_neg (by decide), if_neg (by omega), if_neg (by omega), if_neg (by decide), if_neg (by decide)]
def incF : Int → List NodeS → Int → Prop
 | last, [], b => last < b
 | last, y :: r, b => last < y.f3 ∧ incF y.f3 r b
theorem incF_mono : ∀ (l : List NodeS) (last b c : Int), b ≤ c → incF last l b → incF last l c
 | [], last, b, c, h, h2 => by simp only [incF] at h2 ⊢; omega
 | _ :: r, _, b, c, h, ⟨h1, h2⟩ => ⟨h1, incF_mono r _ b c h h2⟩
theorem incF_snoc : ∀ (l : List NodeS) (last b : Int) (y : NodeS), incF last l y.f3 → y.f3 < b → incF last (l ++ [y]) b
 | [], last, b, y, h, h2 => ⟨h, h2⟩
 | z :: r, last, b, y, ⟨h1, h2⟩, h3 => ⟨h1, incF_snoc r _ b y h2 h3⟩
def goodY (S : Int) (i : Nat) (y : NodeS) : Prop := mayB y (i : Int) = true ∧ incF y.f3 y.f4 S ∧ 0 ≤ y.f3
def nodG (S : Int) (i : Nat) (n : NodeS) (b : Int) : Prop := (∀ y ∈ n.f4, goodY S i y) ∧ (0 < i → n.f0 = 4 ∧ n.f1 = ⟨#[]⟩ ∧ n.f2 = 0 ∧ 0 ≤ n.f3 ∧ incF n.f3 n.f4 b)
def stG (S : Int) : Int → Nat → List NodeS → Prop
 | _, _, [] => True
 | b, i, [n] => nodG S i n b
 | b, i, n :: m :: r => nodG S i n m.f3 ∧ stG S b (i + 1) (m :: r)
theorem nodG_mono (S : Int) (i : Nat) (n : NodeS) (b c : Int) (h : b ≤ c) (hn : nodG S i n b) : nodG S i n c :=
 ⟨hn.1, fun hi => ⟨(hn.2 hi).1, (hn.2 hi).2.1, (hn.2 hi).2.2.1, (hn.2 hi).2.2.2.1, incF_mono _ _ _ _ h (hn.2 hi).2.2.2.2⟩⟩
theorem stG_mono (S : Int) : ∀ (st : List NodeS) (i : Nat) (b c : Int), b ≤ c → stG S b i st → stG S c i st
 | [], _, _, _, _, _ => trivial
 | [n], i, b, c, h, h2 => nodG_mono S i n b c h h2
 | _ :: m :: r, i, b, c, h, ⟨h1, h2⟩ => ⟨h1, stG_mono S (m :: r) (i + 1) b c h h2⟩
theorem stG_snoc (S b : Int) (n : NodeS) : ∀ (st : List NodeS) (i : Nat), stG S b i (st ++ [n]) ↔ stG S n.f3 i st ∧ nodG S (i + st.length) n b
 | [], i => by simp [stG]
 | [m], i => by simp [stG]
 | k :: m :: r, i => by
  have := stG_snoc S b n (m :: r) (i + 1)
  simp only [List.cons_append, stG] at this ⊢
  rw [this, and_assoc]
  simp only [List.length_cons]
  rw [show i + 1 + (r.length + 1) = i + (r.length + 1 + 1) from by omega]
def flatS : List NodeS → List Bare
 | [] => []
 | [n] => toksBL n.f4
 | n :: m :: r => toksBL n.f4 ++ (3, [40], 0) :: flatS (m :: r)
theorem flatS_snoc (n : NodeS) : ∀ (st : List NodeS), 0 < st.length → flatS (st ++ [n]) = flatS st ++ (3, [40], 0) :: toksBL n.f4
 | [], h => by simp at h
 | [m], _ => by simp [flatS]
 | k :: m :: r, _ => by
  have := flatS_snoc n (m :: r) (by simp)
  simp only [List.cons_append, flatS] at this ⊢
  rw [this]; simp
theorem toksBL_snoc (l : List NodeS) (x : NodeS) : toksBL (l ++ [x]) = toksBL l ++ toksB x := by
 induction l with
 | nil => simp [toksBL]
 | cons y r ih => simp only [List.cons_append, toksBL, ih, List.append_assoc]
theorem flatS_add (st : List NodeS) (x : NodeS) (h : 0 < st.length) : flatS (addTop st x) = flatS st ++ toksB x := by
 obtain ⟨s, n, rfl⟩ := snoc_of st h
 rw [add_snoc]
 cases s with
 | nil => simp [flatS, toksBL_snoc]
 | cons a r => rw [flatS_snoc _ _ (by simp), flatS_snoc _ _ (by simp), toksBL_snoc]; simp
def SoundR (S : Int) (st : List NodeS) (ts : List TokS) : List NodeS ⊕ (Int × Int) → Prop
 | .inl st' => 0 < st'.length ∧ (st'.getD 0 zN).f4.length ≤ 1 ∧ stG S S 0 st' ∧ flatS st' = flatS st ++ ts.map bareT
 | .inr (p, e) => (e = 4 ∨ e = 2) ∧ 0 ≤ p ∧ p < S
theorem atom_may (t : TokS) (i : Nat) (hok : tokOk t) (hsz : selfT t.f0 (bl t.f1) t.f2 → t.f1.size ≤ 5000) (hd : doesI t = 0) : mayB ⟨t.f0, t.f1, t.f2, t.f3, []⟩ (i : Int) = true ∧ t.f0 ≠ 4 := by
 rcases hok with h | h | h
 ·refine ⟨?_, by have := h.1; omega⟩
  rw [mayB, if_pos h.1, Bool.and_eq_true]
  exact ⟨by simp, (alone_self _ _ _ h.1).2 ⟨hsz h, h⟩⟩
 ·refine ⟨?_, by omega⟩
  rw [mayB, if_neg (by omega), if_pos h.1, h.2]
  simp
 ·refine ⟨?_, by omega⟩
  have h46 : bl t.f1 = [46] := by
   rw [doesI_bare, h.1] at hd
   by_cases h5 : bl t.f1 = [46]
   ·exact h5
   ·rw [if_neg (by simp [h5])] at hd
    split at hd
    ·cases hd
    ·split at hd <;> cases hd
  rw [mayB, if_neg (by omega), if_neg (by omega), if_pos h.1, h.2.1, toList_bl, h46]
  simp
theorem addTop_pos (st : List NodeS) (x : NodeS) (h : 0 < st.length) : 0 < (addTop st x).length := by rw [addTop_len]; exact h
theorem stG_add (S b c : Int) (st : List NodeS) (y : NodeS) (h : stG S b 0 st) (hs : 0 < st.length) (hy : goodY S (st.length - 1) y) (hb : b ≤ y.f3) (hc : y.f3 < c) : stG S c 0 (addTop st y) := by
 obtain ⟨s, n, rfl⟩ := snoc_of st hs
 rw [add_snoc]
 rw [stG_snoc] at h ⊢
 simp only [List.length_append, List.length_cons, List.length_nil, Nat.zero_add, Nat.add_sub_cancel] at hy h ⊢
 refine ⟨h.1, fun z hz => ?_, fun hi => ?_⟩
 ·rcases List.mem_append.1 hz with hz | hz
  ·exact h.2.1 z hz
  ·rw [List.mem_singleton.1 hz]; exact hy
 ·obtain ⟨q1, q2, q3, q4, q5⟩ := h.2.2 hi
  exact ⟨q1, q2, q3, q4, incF_snoc _ _ _ _ (incF_mono _ _ _ _ hb q5) hc⟩
def rootOk (st : List NodeS) : Prop := (st.getD 0 zN).f4.length ≤ 1 ∧ (1 < st.length → (st.getD 0 zN).f4.length = 0)
theorem root_top (st : List NodeS) (h : st.length = 1) : topN st = st.getD 0 zN := by unfold topN; rw [h]
theorem root_add (st : List NodeS) (x : NodeS) (h : rootOk st) (hs : 0 < st.length) (h1 : st.length = 1 → (st.getD 0 zN).f4.length = 0) : rootOk (addTop st x) := by
 obtain ⟨s, n, rfl⟩ := snoc_of st hs
 rw [add_snoc]
 cases s with
 | nil =>
  have := h1 rfl
  simp only [List.nil_append, List.getD_cons_zero] at this
  refine ⟨?_, fun h2 => by simp at h2⟩
  simp only [List.nil_append, List.getD_cons_zero, List.length_append, List.length_cons, List.length_nil]
  omega
 | cons a r =>
  simp only [rootOk, List.cons_append, List.getD_cons_zero] at h ⊢
  exact ⟨h.1, fun _ => h.2 (by simp)⟩
theorem parse_sound (S : Int) : ∀ (ts : List TokS) (st : List NodeS) (b : Int), incT b ts → 0 ≤ b → b ≤ S → (∀ t ∈ ts, tokOk t ∧ (selfT t.f0 (bl t.f1) t.f2 → t.f1.size ≤ 5000) ∧ t.f3 < S) → 0 < st.length → st.length ≤ 17 → rootOk st → stG S b 0 st → SoundR S st ts (parseL ts st)
 | [], st, b, _, _, hbS, _, hs, _, hf, hg => by
  rw [parseL]
  exact ⟨hs, hf.1, stG_mono S st 0 b S hbS hg, by simp⟩
 | t :: ts, st, b, ⟨hi1, hi2⟩, hb0, hbS, hts, hs, hs2, hf, hg => by
  obtain ⟨hok, hsz, hlt⟩ := hts t (by simp)
  have hts2 : ∀ u ∈ ts, tokOk u ∧ (selfT u.f0 (bl u.f1) u.f2 → u.f1.size ≤ 5000) ∧ u.f3 < S := fun u hu => hts u (by simp [hu])
  have herr : ∀ e, e = 4 ∨ e = 2 → SoundR S st (t :: ts) (.inr (t.f3, e)) := fun e he => ⟨he, by omega, hlt⟩
  have hstep : ∀ (st2 : List NodeS), 0 < st2.length → st2.length ≤ 17 → rootOk st2 → stG S (t.f3 + 1) 0 st2 → flatS st2 = flatS st ++ [bareT t] → SoundR S st (t :: ts) (parseL ts st2) := by
   intro st2 g1 g2 g3 g4 g5
   have := parse_sound S ts st2 (t.f3 + 1) hi2 (by omega) (by omega) hts2 g1 g2 g3 g4
   cases hr : parseL ts st2 with
   | inr e => rw [hr] at this; exact this
   | inl st3 =>
    rw [hr] at this
    refine ⟨this.1, this.2.1, this.2.2.1, ?_⟩
    rw [this.2.2.2, g5, List.map_cons]; simp
  rw [parseL]
  by_cases c1 : st.length = 1 ∧ (topN st).f4.length = 1
  ·rw [if_pos c1]; exact herr 4 (.inl rfl)
  ·rw [if_neg c1]
   by_cases c2 : doesI t = 3
   ·rw [if_pos c2]; exact herr 4 (.inl rfl)
   ·rw [if_neg c2]
    by_cases c3 : doesI t = 2 ∧ st.length = 1
    ·rw [if_pos c3]; exact herr 4 (.inl rfl)
    ·rw [if_neg c3]
     by_cases c4 : doesI t = 1 ∧ st.length > 16
     ·rw [if_pos c4]; exact herr 2 (.inr rfl)
     ·rw [if_neg c4]
      have hsig : (doesI t = 1 → bareT t = (3, [40], 0)) ∧ (doesI t = 2 → bareT t = (3, [41], 0)) := by
       rw [doesI_bare]
       rcases hok with h | h | h
       ·rw [if_pos (.inl (by have := h.1; omega))]; exact ⟨fun h => (by cases h), fun h => (by cases h)⟩
       ·rw [if_pos (.inl (by omega))]; exact ⟨fun h => (by cases h), fun h => (by cases h)⟩
       ·refine ⟨fun h1 => ?_, fun h1 => ?_⟩
        ·by_cases h5 : bl t.f1 = [40]
         ·simp only [bareT, h.1, h.2.1, h5]
         ·exfalso; revert h1; repeat' split
          all_goals first | (intro h1; cases h1; done) | (intro _; exact absurd (by assumption) h5)
        ·by_cases h5 : bl t.f1 = [41]
         ·simp only [bareT, h.1, h.2.1, h5]
         ·exfalso; revert h1; repeat' split
          all_goals first | (intro h1; cases h1; done) | (intro _; exact absurd (by assumption) h5)
      have hroot : (st.getD 0 zN).f4.length = 0 := by
       by_cases h1 : st.length = 1
       ·have h8 := hf.1
        have h9 : ¬ (topN st).f4.length = 1 := fun h => c1 ⟨h1, h⟩
        rw [root_top st h1] at h9
        omega
       ·exact hf.2 (by omega)
      by_cases c5 : doesI t = 1
      ·rw [if_pos c5]
       refine hstep _ (by simp) (by simp; omega) ?_ ?_ ?_
       ·have h0 : (st.getD 0 zN).f4.length = 0 := hroot
        obtain ⟨s, n, rfl⟩ := snoc_of st hs
        refine ⟨?_, fun _ => ?_⟩ <;> (cases s with
         | nil => simp only [List.nil_append, List.cons_append, List.getD_cons_zero] at h0 ⊢; omega
         | cons a r => simp only [List.cons_append, List.getD_cons_zero] at h0 ⊢; omega)
       ·rw [stG_snoc]
        refine ⟨stG_mono S st 0 b t.f3 hi1 hg, fun y hy => (by cases hy), fun _ => ⟨rfl, rfl, rfl, by show 0 ≤ t.f3; omega, by show t.f3 < t.f3 + 1; omega⟩⟩
       ·rw [flatS_snoc _ _ hs, hsig.1 c5]; rfl
      ·rw [if_neg c5]
       by_cases c6 : doesI t = 2
       ·rw [if_pos c6]
        have hl2 : 1 < st.length := by have : ¬ st.length = 1 := fun h => c3 ⟨c6, h⟩; omega
        obtain ⟨s, n, rfl⟩ := snoc_of st hs
        have hs0 : 0 < s.length := by simp at hl2; exact hl2
        rw [top_snoc]
        have e : (s ++ [n]).take ((s ++ [n]).length - 1) = s := by simp
        rw [e]
        rw [stG_snoc] at hg
        obtain ⟨hg1, hg2, hg3⟩ := hg
        obtain ⟨q1, q2, q3, q4, q5⟩ := hg3 (by omega)
        have hr0 : (s.getD 0 zN).f4.length = 0 := by
         cases s with
         | nil => simp at hs0
         | cons a r => simpa only [List.cons_append, List.getD_cons_zero] using hroot
        have hsl : s.length ≤ 16 := by simp at hs2; exact hs2
        have hgood : goodY S (s.length - 1) n := by
         refine ⟨?_, incF_mono _ _ _ _ hbS q5, q4⟩
         obtain ⟨k, x, m, a, l⟩ := n
         simp only at q1 q2 q3 hg2
         subst q1 q2 q3
         rw [mayB, if_neg (by decide), if_neg (by decide), if_neg (by decide), if_pos rfl, wrap_small _ (by omega) (by omega), mayL_all]
         have hi : ((s.length - 1 : Nat) : Int) + 1 = ((0 + s.length : Nat) : Int) := by omega
         rw [hi]
         simp only [Bool.and_eq_true, List.all_eq_true, decide_eq_true_eq]
         exact ⟨fun y hy => (hg2 y hy).1, by decide, (toList_nil _).2 rfl, by omega⟩
        have hlast : n.f3 < b := by
         have : ∀ (l : List NodeS) (a c : Int), incF a l c → a < c := by
          intro l
          induction l with
          | nil => intro a c h; exact h
          | cons z r ih => intro a c h; have := ih _ _ h.2; have := h.1; omega
         exact this _ _ _ q5
        refine hstep _ (addTop_pos s n hs0) (by rw [addTop_len]; omega) (root_add s n ⟨by rw [hr0]; omega, fun _ => hr0⟩ hs0 (fun _ => hr0)) (stG_add S n.f3 (t.f3 + 1) s n hg1 hs0 hgood (by omega) (by omega)) ?_
        ·rw [flatS_add s n hs0, flatS_snoc n s hs0, hsig.2 c6]
         obtain ⟨k, x, m, a, l⟩ := n
         simp only at q1
         subst q1
         rw [toksB, if_pos rfl]
         simp
       ·rw [if_neg c6]
        have c0 : doesI t = 0 := by have := doesI_cases t; omega
        obtain ⟨hm, h4⟩ := atom_may t (st.length - 1) hok hsz c0
        refine hstep _ (addTop_pos st _ hs) (by rw [addTop_len]; exact hs2) (root_add st _ hf hs (fun _ => hroot)) (stG_add S b (t.f3 + 1) st _ hg hs ⟨hm, by show t.f3 < S; omega, by show 0 ≤ t.f3; omega⟩ (by show b ≤ t.f3; omega) (by show t.f3 < t.f3 + 1; omega)) ?_
        ·rw [flatS_add st _ hs, toksB, if_neg h4]; rfl
def Parsed (s : ByteArray) (x : NodeS) (ts : List TokS) : Prop := s.size ≤ 5000 ∧ scan 1000 0 (bl s) = .inl ts ∧ ts.map bareT = toksB x ∧ mayB x 0 = true ∧ incF x.f3 x.f4 s.size ∧ 0 ≤ x.f3 ∧ ts.length ≤ 1000
theorem toksBL_one (x : NodeS) : toksBL [x] = toksB x := by rw [toksBL, toksBL, List.append_nil]
theorem parse_facts (s : ByteArray) : ((parseN s).2.2 = 0 ∧ (parseN s).2.1 = s.size ∧ ∃ ts, Parsed s (parseN s).1 ts) ∨ (((parseN s).2.2 = 4 ∨ (parseN s).2.2 = 2) ∧ (parseN s).1 = zN ∧ 0 ≤ (parseN s).2.1 ∧ (parseN s).2.1 ≤ s.size) := by
 by_cases hs : 5000 < s.size
 ·have he := allF_big' s hs
  have h0 : (allF s).2.1 = 0 := by unfold allF; rw [if_pos (by omega)]
  have hp : parseN s = (zN, (allF s).2.1, (allF s).2.2) := by unfold parseN; exact if_pos (by omega)
  rw [hp]
  exact .inr ⟨.inr he, rfl, by show 0 ≤ (allF s).2.1; omega, by show (allF s).2.1 ≤ _; omega⟩
 ·have ha : allF s = endL s [] (scan 1000 0 (bl s)) := Option.some.inj (all_small s (by omega))
  cases hx : scan 1000 0 (bl s) with
  | inr e =>
   obtain ⟨p, e⟩ := e
   obtain ⟨h1, h2, h3⟩ := scan_err _ _ _ _ _ _ (Nat.le_refl _) hx
   have hp : parseN s = (zN, (p : Int), e) := by
    unfold parseN
    rw [ha, hx]
    exact if_pos (show e ≠ 0 by omega)
   rw [hp]
   rw [bl_length] at h3
   exact .inr ⟨h1, rfl, by simp only; omega, by simp only; omega⟩
  | inl ts =>
   have hp : parseN s = parseEnd s.size (parseL ts [zN]) := by
    unfold parseN
    rw [ha, hx]
    exact if_neg (show ¬ ((0 : Int) ≠ 0) by decide)
   rw [hp]
   obtain ⟨f1, f2⟩ := scan_facts _ _ _ _ _ (Nat.le_refl _) hx
   rw [bl_length] at f1
   have hsnd := parse_sound (s.size : Int) ts [zN] 0 f2 (Int.le_refl _) (by omega) (fun t ht => ⟨(f1 t ht).1, fun h => by have := (f1 t ht).2.1 h; omega, by have := (f1 t ht).2.2; omega⟩) (by decide) (by decide) ⟨by decide, fun h => by simp at h⟩
    ⟨fun y hy => (by cases hy), fun h => by omega⟩
   cases hr : parseL ts [zN] with
   | inr e =>
    obtain ⟨p, e⟩ := e
    rw [hr] at hsnd
    obtain ⟨h1, h2, h3⟩ := hsnd
    exact .inr ⟨h1, rfl, h2, by show p ≤ _; omega⟩
   | inl st =>
    rw [hr] at hsnd
    obtain ⟨h1, h2, h3, h4⟩ := hsnd
    simp only [parseEnd]
    by_cases hl : st.length > 1
    ·rw [if_pos hl]; exact .inr ⟨.inl rfl, rfl, by simp only; omega, by simp only; omega⟩
    ·rw [if_neg hl]
     by_cases hz : (st.getD 0 zN).f4.length = 0
     ·rw [if_pos hz]; exact .inr ⟨.inl rfl, rfl, by simp only; omega, by simp only; omega⟩
     ·rw [if_neg hz]
      refine .inl ⟨rfl, rfl, ts, by omega, hx, ?_⟩
      obtain ⟨n, rfl⟩ := List.length_eq_one_iff.1 (show st.length = 1 by omega)
      simp only [List.getD_cons_zero] at h2 hz ⊢
      obtain ⟨x, hx4⟩ := List.length_eq_one_iff.1 (show n.f4.length = 1 by omega)
      rw [hx4]
      simp only [List.getD_cons_zero]
      simp only [flatS, List.nil_append] at h4
      rw [hx4, toksBL_one] at h4
      obtain ⟨g1, g2, g3⟩ := h3.1 x (by rw [hx4]; simp)
      have hlen := scan_len _ _ _ _ _ (Nat.le_refl _) hx
      refine ⟨?_, g1, g2, g3, hlen.2⟩
      rw [h4]
      rfl
theorem toks_pos (x : NodeS) : 1 ≤ (toksB x).length := by
 obtain ⟨k, t, n, a, l⟩ := x
 rw [toksB]
 split <;> simp
theorem toksBL_le (l : List NodeS) : l.length ≤ (toksBL l).length ∧ ∀ y ∈ l, (toksB y).length ≤ (toksBL l).length := by
 induction l with
 | nil => simp [toksBL]
 | cons x r ih =>
  rw [toksBL, List.length_append, List.length_cons]
  have := toks_pos x
  refine ⟨by omega, fun y hy => ?_⟩
  rcases List.mem_cons.1 hy with rfl | hy
  ·omega
  ·have := ih.2 y hy; omega
theorem small_toks : ∀ (N : Nat) (x : NodeS), SizeOf.sizeOf x ≤ N → leafB x = true → (toksB x).length ≤ 140737488351232 → smallB x = true := by
 intro N
 induction N with
 | zero => intro x hN; obtain ⟨k, t, n, a, l⟩ := x; simp only [S39.mk.sizeOf_spec] at hN; omega
 | succ N ih =>
  intro x hN hx hl
  obtain ⟨k, t, n, a, l⟩ := x
  rw [smallB, Bool.and_eq_true, decide_eq_true_eq, smallL_all, List.all_eq_true]
  by_cases h4 : k = 4
  ·subst h4
   rw [leafB, if_pos rfl, Bool.and_eq_true, Bool.and_eq_true, leafL_all] at hx
   rw [toksB, if_pos rfl] at hl
   simp only [List.length_cons, List.length_append, List.length_nil] at hl
   have := toksBL_le l
   exact ⟨by omega, fun y hy => ih y (by have := size_in ⟨4, t, n, a, l⟩ y hy; omega) (hx.2.2 y hy) (by have := this.2 y hy; omega)⟩
  ·obtain ⟨rfl, _⟩ := lex1_leaf k t n a l h4 hx
   exact ⟨by simp, fun y hy => by cases hy⟩
theorem parsed_small (s : ByteArray) (x : NodeS) (ts : List TokS) (h : Parsed s x ts) : smallB x = true := by
 obtain ⟨_, _, h3, h4, _, _, h7⟩ := h
 refine small_toks _ x (Nat.le_refl _) ((may_top x).1 h4).1 ?_
 rw [← h3, List.length_map]
 omega
theorem mayF_eq (x : NodeS) (h : smallB x = true) : sexp_May.f x.f0 x.f1 x.f2 x.f3 x.f4 = some (mayB x 0) := by
 unfold sexp_May.f sexp_may.f
 rw [node_eta x _ rfl, if_pos h]
 rfl
theorem printF_eq (x : NodeS) (h : smallB x = true) (hl : (textN x).length ≤ 1000000000000) : sexp_Print.f x.f0 x.f1 x.f2 x.f3 x.f4 = some (if mayB x 0 = true then textS x else ⟨#[]⟩) := by
 unfold sexp_Print.f
 rw [mayF_eq x h]
 simp only [Option.bind_some]
 by_cases hm : mayB x 0 = true
 ·rw [if_pos hm, if_pos hm]
  unfold sexp_text.f
  rw [node_eta x _ rfl, if_pos hl]
  rfl
 ·rw [if_neg hm, if_neg hm]
theorem sameF_eq (x y : NodeS) (h : smallB x = true) (h2 : smallB y = true) : sexp_Same.f x.f0 x.f1 x.f2 x.f3 x.f4 y.f0 y.f1 y.f2 y.f3 y.f4 = some (sameB x y) := by
 unfold sexp_Same.f
 rw [node_eta x _ rfl, node_eta y _ rfl, if_pos ⟨h, h2⟩]
theorem itoa_5 : Lib.itoa 5 = [53] := by
 rw [show (5 : Int) = ((5 : Nat) : Int) from rfl, Lib.itoa_nonneg 5, Lib.decDigits_one (by omega)]
 decide
theorem parse_5 : Lib.parseIntB 64 [53] = .ok 5 := by decide
theorem numOk_5 : numOk [53] = true := by
 unfold numOk
 rw [parse_5]
 simp only [itoa_5, decide_true]
theorem numV_5 : numV [53] = 5 := by unfold numV; rw [parse_5]
theorem lex_5 (r : List UInt8) (hr : sepL r) : lex1 (53 :: r) = some (1, [53], 5, 1) := by
 have h : lex1 [53] = some (1, [53], 5, 1) := by
  rw [lex1_cons, if_neg (by decide), if_neg (by decide), if_pos (by decide)]
  have e : List.take (runN numU [53]) ([53] : List UInt8) = [53] := by decide
  have e2 : runN numU [53] = 1 := by decide
  rw [e, numOk_5, numV_5, if_pos rfl, e2]
 exact lex1_sep [53] r hr _ h
def exN : NodeS := ⟨4, ⟨#[]⟩, 0, 0, [⟨0, ⟨#[101, 113]⟩, 0, 1, []⟩, ⟨0, ⟨#[97]⟩, 0, 4, []⟩, ⟨1, ⟨#[53]⟩, 5, 6, []⟩]⟩
theorem allF_ex14 : allF ⟨#[40, 101, 113, 32, 97, 32, 53, 41]⟩ = ([⟨3, ⟨#[40]⟩, 0, 0⟩, ⟨0, ⟨#[101, 113]⟩, 0, 1⟩, ⟨0, ⟨#[97]⟩, 0, 4⟩, ⟨1, ⟨#[53]⟩, 5, 6⟩, ⟨3, ⟨#[41]⟩, 0, 7⟩], 8, 0) := by
 have e1 : lex1 [40, 101, 113, 32, 97, 32, 53, 41] = some (3, [40], 0, 1) := by decide
 have e2 : lex1 [101, 113, 32, 97, 32, 53, 41] = some (0, [101, 113], 0, 2) := by decide
 have e3 : lex1 [97, 32, 53, 41] = some (0, [97], 0, 1) := by decide
 have e4 : lex1 [53, 41] = some (1, [53], 5, 1) := lex_5 [41] (sep_cons _ _ (by decide) (by decide))
 have e5 : lex1 [41] = some (3, [41], 0, 1) := by decide
 have s0 : skipN false [40, 101, 113, 32, 97, 32, 53, 41] = 0 := by decide
 have s1 : skipN false [101, 113, 32, 97, 32, 53, 41] = 0 := by decide
 have s2 : skipN false [32, 97, 32, 53, 41] = 1 := by decide
 have s3 : skipN false [32, 53, 41] = 1 := by decide
 have s4 : skipN false [41] = 0 := by decide
 have s5 : skipN false [] = 0 := by decide
 have b : bl ⟨#[40, 101, 113, 32, 97, 32, 53, 41]⟩ = [40, 101, 113, 32, 97, 32, 53, 41] := rfl
 have z : (⟨#[40, 101, 113, 32, 97, 32, 53, 41]⟩ : ByteArray).size = 8 := rfl
 unfold allF allL
 rw [z, if_neg (by omega), b, s0]
 simp only [List.length_cons, List.length_nil, List.drop_zero, lexL, e1, e2, e3, e4, e5, s1, s2, s3, s4, s5, List.drop_succ_cons, List.drop_nil, endL, List.nil_append, z]
 rfl
theorem parse_ex14 : parseN ⟨#[40, 101, 113, 32, 97, 32, 53, 41]⟩ = (exN, 8, 0) := by
 unfold parseN
 rw [allF_ex14]
 have d1 : doesI ⟨3, ⟨#[40]⟩, 0, 0⟩ = 1 := does_open _ rfl
 have d2 : doesI ⟨0, ⟨#[101, 113]⟩, 0, 1⟩ = 0 := by rw [doesI_bare]; rfl
 have d3 : doesI ⟨0, ⟨#[97]⟩, 0, 4⟩ = 0 := by rw [doesI_bare]; rfl
 have d4 : doesI ⟨1, ⟨#[53]⟩, 5, 6⟩ = 0 := by rw [doesI_bare]; rfl
 have d5 : doesI ⟨3, ⟨#[41]⟩, 0, 7⟩ = 2 := does_shut _ rfl
 rw [if_neg (by decide)]
 simp only [parseL, d1, d2, d3, d4, d5]
 rfl
theorem may_ex14 : mayB exN 0 = true := by
 have h1 : aloneB 0 ⟨#[101, 113]⟩ 0 = true := (alone_self _ _ _ (.inl rfl)).2 ⟨by decide, .inl rfl, by decide⟩
 have h2 : aloneB 0 ⟨#[97]⟩ 0 = true := (alone_self _ _ _ (.inl rfl)).2 ⟨by decide, .inl rfl, by decide⟩
 have h3 : aloneB 1 ⟨#[53]⟩ 5 = true := (alone_self _ _ _ (.inr rfl)).2 ⟨by decide, .inr rfl, lex_5 [] sep_nil⟩
 have hb : ((⟨#[]⟩ : ByteArray).toList == []) = true := (toList_nil _).2 rfl
 unfold exN
 simp only [mayB, mayL, h1, h2, h3, hb]
 decide
theorem awake14_true : trufflelaw14_awake.f = some true := by
 unfold trufflelaw14_awake.f sexp_Parse.f
 rw [parse_ex14]
 have hs : smallB exN = true := by decide
 have ht : textN exN = [40, 101, 113, 32, 97, 32, 53, 41] := by decide
 simp only [Option.bind_some]
 rw [mayF_eq exN hs, printF_eq exN hs (by rw [ht]; decide), may_ex14]
 simp only [Option.bind_some, if_true, toList_bl, textS, ht]
 decide
theorem trufflelaw14_awake.calls (r : Bool) (w : World) (hG : GInv w) (h : trufflelaw14_awake.f = some r) :
  Calls Tryd.prog 23 #[] w fun e w' => e = .returned (.bool r) ∧ Below w.heap.size w w' := by
 have hr : r = true := by rw [awake14_true] at h; exact (Option.some.inj h).symm
 subst hr
 exact trufflelaw14_awake.callsT w hG h
end Go.Proofs.YtngcojabofkbjaaDoor.P
