/- Part 8 of what the law SexpTells leans on: contracts of the functions that it reaches, and plain lemmas; printed walks and words (by the kit's print, through wip/mp.py) and the session's own texts, one behind the other, what is not used left out (wip/prune.py). -/
import Derived.Deep.Slices
import Derived.Lib.SmallJoins
import Derived.Lib.ItoaMem
import Derived.Lib.ItoaLen
import Derived.Deep.DeepWitnessRowRef
import Derived.Stop.LaidErr
import Derived.Lib.LaidTab
import Derived.LaidLaws
import Derived.MakeChecks
import Derived.Test.YtngcojabofkbjaaDoorRows
import Derived.Test.YtngcojabofkbjaaDoorMSexpTells1
import Derived.Test.YtngcojabofkbjaaDoorMSexpTells2
import Derived.Test.YtngcojabofkbjaaDoorMSexpTells3
import Derived.Test.YtngcojabofkbjaaDoorMSexpTells4
import Derived.Test.YtngcojabofkbjaaDoorMSexpTells5
import Derived.Test.YtngcojabofkbjaaDoorMSexpTells6
import Derived.Test.YtngcojabofkbjaaDoorMSexpTells7
namespace Go.Proofs.YtngcojabofkbjaaDoor.P
open Go.RowKit Go.Proofs.YtngcojabofkbjaaDoorW.PrintWords Go.Proofs.YtngcojabofkbjaaDoorW.PrintLast Go.Proofs.YtngcojabofkbjaaDoorW.PrintMore
set_option linter.unusedVariables false
set_option linter.unusedSimpArgs false
def trufflelaw14_SexpTells.j0 : Nat → ByteArray → Bool → Bool → Int → ByteArray → Int → Int → List (S39) → Option (Bool)
 | 0,_,_,_,_,_,_,_,_ => none
 | k + 1,x0,x5,x24,x425000,x425001,x425002,x425003,x425004 => if x24 = true then (some x5) else ((sexp_Parse.f x0).bind fun bt427 => ((truffleref14_Parse.f k x0).bind fun bt437 => ((truffleref14_Same.f k bt427.1 bt427.2.1 bt427.2.2.1 bt427.2.2.2.1 bt427.2.2.2.2.1 bt437.1 bt437.2.1 bt437.2.2.1 bt437.2.2.2.1 bt437.2.2.2.2.1 true).bind fun t447 => (if t447 = true then (if bt427.2.2.2.2.2.1 = bt437.2.2.2.2.2.1 then (if bt427.2.2.2.2.2.2 = bt437.2.2.2.2.2.2 then ((sexp_May.f x425000 x425001 x425002 x425003 x425004).bind fun t448 => ((truffleref14_May.f k x425000 x425001 x425002 x425003 x425004).bind fun t449 => (if (t448 == t449) = true then ((sexp_Print.f x425000 x425001 x425002 x425003 x425004).bind fun t450 => ((truffleref14_Print.f k x425000 x425001 x425002 x425003 x425004).bind fun t451 => (if t450.toList = t451.toList then ((sexp_Same.f x425000 x425001 x425002 x425003 x425004 bt427.1 bt427.2.1 bt427.2.2.1 bt427.2.2.2.1 bt427.2.2.2.2.1).bind fun t452 => ((truffleref14_Same.f k x425000 x425001 x425002 x425003 x425004 bt427.1 bt427.2.1 bt427.2.2.1 bt427.2.2.2.1 bt427.2.2.2.2.1 false).bind fun t453 => (if (t452 == t453) = true then ((sexp_Same.f x425000 x425001 x425002 x425003 x425004 x425000 x425001 x425002 x425003 x425004).bind fun t454 => (some t454)) else (some false)))) else (some false)))) else (some false)))) else (some false)) else (some false)) else (some false)))))
def trufflelaw14_SexpTells.f (k : Nat) (a0 : ByteArray) (a1_0 : Int) (a1_1 : ByteArray) (a1_2 : Int) (a1_3 : Int) (l1_4 : List (S39)) : Option (Bool) := (trufflelaw14_awake.f).bind fun t425 => (if t425 = true then ((truffleref14_Few.f k a1_0 a1_1 a1_2 a1_3 l1_4).bind fun t426 => (if t426 = true then (trufflelaw14_SexpTells.j0 k a0 t425 (decide ((a0.size : Int) > 6000)) a1_0 a1_1 a1_2 a1_3 l1_4) else (trufflelaw14_SexpTells.j0 k a0 t425 true a1_0 a1_1 a1_2 a1_3 l1_4))) else (trufflelaw14_SexpTells.j0 k a0 t425 true a1_0 a1_1 a1_2 a1_3 l1_4))
def trufflelaw14_SexpTells.T6 : Bool × List (List Nat × List Nat) := (true,[([],[]),([],[]),([0,1],[0,1]),([2,2],[2]),([3],[3]),([3],[3]),([4,5,3],[3,4,5]),([3,6],[3,6]),([7,3],[7]),([8],[8]),([8],[8]),([9,10,8],[8,9,10]),([8,11],[8,11]),([12,8],[12]),([13],[13]),([14,13,13],[13,14]),([13],[13]),([16,15,13],[13,16]),([15,17,13],[13,15,17]),([13,18],[13,18]),([19,17],[19]),([20],[20]),([21,20,20],[20,21]),([20],[20]),([23,22,20],[20,23]),([22,24,20],[20,22,24]),([20,25],[20,25]),([26,24],[26]),([27],[27]),([27],[27]),([28,29,27,27],[27,28,29]),([27],[27]),([27],[27]),([31,32,30,27],[27,31,32]),([30,33,27],[27,30,33]),([27,34],[27,34]),([35,33],[35]),([36],[36]),([36],[36]),([37,38,36,36],[36,37,38]),([36,39],[36,39]),([40,39,0,1,2,3,4,5,6,7,8,9,10,11,12,13,14,15,16,17,18,19,20,21,22,23,24,25,26,27,28,29,30,31,32,33,34,35,36,37,38,39,40],[40])])
def trufflelaw14_SexpTells.B6 : List Nat := [0,0,3,7,15,15,63,127,255,511,511,2047,4095,8191,16383,32767,16383,131071,262143,524287,1048575,2097151,4194303,2097151,16777215,33554431,67108863,134217727,268435455,268435455,1073741823,268435455,268435455,8589934591,17179869183,34359738367,68719476735,137438953471,137438953471,549755813887,1099511627775,2199023255551]
theorem trufflelaw14_SexpTells.tab6 : rtab .any (opsOf Tryd.f10 6) = trufflelaw14_SexpTells.T6 := by kernel_rfl
theorem trufflelaw14_SexpTells.bits6 : waitsOk trufflelaw14_SexpTells.T6.2 trufflelaw14_SexpTells.B6 = true := by kernel_rfl
set_option maxHeartbeats 8000000 in
set_option maxRecDepth 100000 in
theorem trufflelaw14_SexpTells.calls (k : Nat) (a0 : ByteArray) (a1_0 : Int) (a1_1 : ByteArray) (a1_2 : Int) (a1_3 : Int) (A1_4 : Option Addr) (c1_4 : Nat) (l1_4 : List (S39)) (w : World) (hG : GInv w) (hr1_4 : Kd.C k39 w A1_4 l1_4.length l1_4) (hc1_4 : l1_4.length ≤ c1_4) (h : trufflelaw14_SexpTells.f k a0 a1_0 a1_1 a1_2 a1_3 l1_4 = some true) :
  Calls Tryd.prog 10 #[.string a0,.agg #[.int .i64 a1_0,.string a1_1,.int .i64 a1_2,.int .i64 a1_3,.slice A1_4 l1_4.length c1_4]] w fun e w' => e = .returned (.bool true) ∧ Below w.heap.size w w' := by
 have hu39 := Tryd.underlying39
 have HR1_4 := Y0 hr1_4
 have HC1_4 := Y0 hc1_4
 clear hr1_4 hc1_4
 have HB := Y0 (Below.refl w.heap.size w)
 have H : ((trufflelaw14_awake.f).bind fun t425 => (if t425 = true then ((truffleref14_Few.f k a1_0 a1_1 a1_2 a1_3 l1_4).bind fun t426 => (if t426 = true then (trufflelaw14_SexpTells.j0 k a0 t425 (decide ((a0.size : Int) > 6000)) a1_0 a1_1 a1_2 a1_3 l1_4) else (trufflelaw14_SexpTells.j0 k a0 t425 true a1_0 a1_1 a1_2 a1_3 l1_4))) else (trufflelaw14_SexpTells.j0 k a0 t425 true a1_0 a1_1 a1_2 a1_3 l1_4))) = some true := h
 clear h
 replace H := Y17.mp H
 obtain ⟨t425,A30,H⟩ := H
 try dsimp only at H
 have A3 := Y0 A30
 clear A30
 have HC4 := Y0 H
 clear H
 go_enter Tryd.func10,Tryd.ntmps10
 go_upto_region 2 with (first | ((with_reducible refine gate_dst (N := 3) rfl ?_);(try (refine gate_guard (by rfl) ?_;dsimp only));refine box_event ?hg (N := 3) ?hd (cs := #[.int .i64 a1_0,.string a1_1,.int .i64 a1_2,.int .i64 a1_3,.slice A1_4 l1_4.length c1_4]) (t := 39) ?hr ?_;(case hd => rfl);(case hg => rfl);(case hr => first | (go_simp;done) | (go_simp;rfl));intro gb424 hg w5 hbox hb;have n0_ := Y0 (below_step (by repeat (with_reducible first | exact HB.out | apply Y3 | apply Y1 | apply Y2)) hb);have n1_ := Y0 (hbox);have n2_ := Y0 ((by rw [hg];exact (below_size (by repeat (with_reducible first | exact HB.out | apply Y3 | apply Y1 | apply Y2))) : w.heap.size ≤ gb424));have n3_ := Y0 ((by rw [hg];exact (below_size (by repeat (with_reducible first | exact HB.out | apply Y3 | apply Y1 | apply Y2))) : w.heap.size ≤ gb424));clear HB;have HB := n0_;have BK424 := n1_;have GW424 := n2_;have GE424 := n3_;clear n0_ n1_ n2_ n3_;clear hb hbox hg) | ((with_reducible refine gate_callee (f := 23) rfl ?_);refine goesL_ (some 12) rfl rfl Tryd.func23 (by kernel_rfl) rfl #[] rfl (by (try simp only [List.map_toArray,List.map_cons,List.map_nil]);first | done | rfl | (simp only [List.length_drop,List.length_take];rfl)) ?_;(with_reducible refine (trufflelaw14_awake.calls  t425 _ ?side1 A3.out).mono ?_);(case side1 => exact hG.below (by repeat (with_reducible first | exact HB.out | apply Y3 | apply Y1 | apply Y2 | refine Y4 ?_ GE424.out)));rintro e w6 ⟨rfl,hb⟩;refine ⟨_,rfl,?_⟩;have n0_ := Y0 (blk_below (g := gb424) (o := .cells #[.int .i64 a1_0,.string a1_1,.int .i64 a1_2,.int .i64 a1_3,.slice A1_4 l1_4.length c1_4] 39 (0,0)) (by (with_reducible repeat first | apply Y11 | apply Y13 | apply Y12);exact BK424.out) hb);have n1_ := Y0 (below_step (by repeat (with_reducible first | exact HB.out | apply Y3 | apply Y1 | apply Y2 | refine Y4 ?_ GE424.out)) hb);clear BK424;clear HB;have BK424 := n0_;have HB := n1_;clear n0_ n1_;(try clear hb);(try clear hb2);(try clear hk);(try clear hi)))
 (try simp only [Act.put,Y14,Y15,Y16])
 go_cut [24] (fun v24 wc => ∃ (kq : Nat) (x24_3 : Bool),v24 = .bool x24_3 ∧ Aside0 (trufflelaw14_SexpTells.j0 kq a0 t425 x24_3 a1_0 a1_1 a1_2 a1_3 l1_4 = some true) ∧ Aside0 (kq ≤ k) ∧ Aside0 (wc.heap[gb424]? = some (.cells #[.int .i64 a1_0,.string a1_1,.int .i64 a1_2,.int .i64 a1_3,(.slice A1_4 l1_4.length c1_4)] 39 (0,0))) ∧ Aside0 (Below w.heap.size w wc))
 case first =>
  have H := HC4.out
  clear HC4
  by_cases c7 : t425 = true
  rotate_left
  ·replace c7 := Bool.eq_false_iff.mpr c7
   subst c7
   rw [if_neg (show ¬ (false = true) by decide)] at H
   have H' := Y0 H
   clear H
   go_wp2
   go_meet
   case rel => exact ⟨_,(true),(by first | rfl | (simp;done) | (simp [*];done)),H',⟨by first | omega | exact Nat.le_refl _⟩,⟨by (with_reducible repeat first | apply Y11 | apply Y13 | apply Y12);exact BK424.out⟩,⟨by repeat (with_reducible first | exact HB.out | apply Y3 | apply Y1 | apply Y2 | refine Y4 ?_ GE424.out)⟩⟩
  subst c7
  rw [if_pos rfl] at H
  replace H := Y17.mp H
  obtain ⟨t426,A80,H⟩ := H
  try dsimp only at H
  have A8 := Y0 A80
  clear A80
  by_cases c9 : t426 = true
  ·subst c9
   rw [if_pos rfl] at H
   have H' := Y0 H
   clear H
   have ⟨hcz10_0,hcz10_1,hcz10_2,hcz10_3,hcz10_4,hfz10_0,hfz10_1,hfz10_2,hfz10_3,hfz10_4⟩ := sq_box5 BK424.out
   go_wp2_with (first | (go_at_call 26;(with_reducible refine (truffleref14_Few.calls k a1_0 a1_1 a1_2 a1_3 _ _ l1_4 true _ ?side1 ?side2 A8.out).mono ?_);(case side1 => repeat (first | exact (Kd.C_below HR1_4.out HB.out) | (with_reducible refine Kd.C_alloc ?_ _) | (with_reducible refine Kd.C_drewN ?_ _) | (with_reducible refine Kd.C_drew ?_)));(case side2 => exact HC1_4.out);rintro e w11 ⟨rfl,hb⟩;have n0_ := Y0 (blk_below (g := gb424) (o := .cells #[.int .i64 a1_0,.string a1_1,.int .i64 a1_2,.int .i64 a1_3,.slice A1_4 l1_4.length c1_4] 39 (0,0)) (by (with_reducible repeat first | apply Y11 | apply Y13 | apply Y12);exact BK424.out) hb);have n1_ := Y0 (below_step (by repeat (with_reducible first | exact HB.out | apply Y3 | apply Y1 | apply Y2 | refine Y4 ?_ GE424.out)) hb);clear BK424;clear HB;have BK424 := n0_;have HB := n1_;clear n0_ n1_;(try clear hb);(try clear hb2);(try clear hk);(try clear hi)))
   go_meet
   case rel => exact ⟨_,(decide ((a0.size : Int) > 6000)),(by first | rfl | (simp;done) | (simp [*];done)),H',⟨by first | omega | exact Nat.le_refl _⟩,⟨by (with_reducible repeat first | apply Y11 | apply Y13 | apply Y12);exact BK424.out⟩,⟨by repeat (with_reducible first | exact HB.out | apply Y3 | apply Y1 | apply Y2 | refine Y4 ?_ GE424.out)⟩⟩
  replace c9 := Bool.eq_false_iff.mpr c9
  subst c9
  rw [if_neg (show ¬ (false = true) by decide)] at H
  have H' := Y0 H
  clear H
  have ⟨hcz12_0,hcz12_1,hcz12_2,hcz12_3,hcz12_4,hfz12_0,hfz12_1,hfz12_2,hfz12_3,hfz12_4⟩ := sq_box5 BK424.out
  go_wp2_with (first | (go_at_call 26;(with_reducible refine (truffleref14_Few.calls k a1_0 a1_1 a1_2 a1_3 _ _ l1_4 false _ ?side1 ?side2 A8.out).mono ?_);(case side1 => repeat (first | exact (Kd.C_below HR1_4.out HB.out) | (with_reducible refine Kd.C_alloc ?_ _) | (with_reducible refine Kd.C_drewN ?_ _) | (with_reducible refine Kd.C_drew ?_)));(case side2 => exact HC1_4.out);rintro e w13 ⟨rfl,hb⟩;have n0_ := Y0 (blk_below (g := gb424) (o := .cells #[.int .i64 a1_0,.string a1_1,.int .i64 a1_2,.int .i64 a1_3,.slice A1_4 l1_4.length c1_4] 39 (0,0)) (by (with_reducible repeat first | apply Y11 | apply Y13 | apply Y12);exact BK424.out) hb);have n1_ := Y0 (below_step (by repeat (with_reducible first | exact HB.out | apply Y3 | apply Y1 | apply Y2 | refine Y4 ?_ GE424.out)) hb);clear BK424;clear HB;have BK424 := n0_;have HB := n1_;clear n0_ n1_;(try clear hb);(try clear hb2);(try clear hk);(try clear hi)))
  go_meet
  case rel => exact ⟨_,(true),(by first | rfl | (simp;done) | (simp [*];done)),H',⟨by first | omega | exact Nat.le_refl _⟩,⟨by (with_reducible repeat first | apply Y11 | apply Y13 | apply Y12);exact BK424.out⟩,⟨by repeat (with_reducible first | exact HB.out | apply Y3 | apply Y1 | apply Y2 | refine Y4 ?_ GE424.out)⟩⟩
 case rest =>
  clear HC4
  obtain ⟨kq,x24_3,rfl,HA,HJ3,BK424,HB⟩ := hcut
  cases kq with
  | zero => exact absurd HA.out (by simp [trufflelaw14_SexpTells.j0])
  | succ kj3 =>
   have H := HA.out
   clear HA
   simp only [trufflelaw14_SexpTells.j0] at H
   by_cases c14 : x24_3 = true
   ·subst c14
    rw [if_pos rfl] at H
    have hv_ := Option.some.inj H
    go_wp2
    go_ret
    exact ⟨by first | rfl | (rw [hv_];done) | (simp [hv_];done) | (simp [← hv_];done) | (simp [] <;> rfl) | (simp [*] <;> rfl),by repeat (with_reducible first | exact HB.out | apply Y3 | apply Y1 | apply Y2 | refine Y4 ?_ GE424.out)⟩
   replace c14 := Bool.eq_false_iff.mpr c14
   subst c14
   rw [if_neg (show ¬ (false = true) by decide)] at H
   replace H := Y17.mp H
   obtain ⟨⟨t427,t428,t429,t430,t431,t434,t435⟩,A150,H⟩ := H
   try dsimp only at H
   have A15 := Y0 A150
   clear A150
   replace H := Y17.mp H
   obtain ⟨⟨t437,t438,t439,t440,t441,t444,t445⟩,A160,H⟩ := H
   try dsimp only at H
   have A16 := Y0 A160
   clear A160
   replace H := Y17.mp H
   obtain ⟨t447,A170,H⟩ := H
   try dsimp only at H
   have A17 := Y0 A170
   clear A170
   by_cases c18 : t447 = true
   rotate_left
   ·replace c18 := Bool.eq_false_iff.mpr c18
    subst c18
    rw [if_neg (show ¬ (false = true) by decide)] at H
    exact absurd (Option.some.inj H) Bool.false_ne_true
   subst c18
   rw [if_pos rfl] at H
   by_cases c19 : t434 = t444
   rotate_left
   ·rw [if_neg c19] at H
    have c19b0 : (t434 == t444) = false := beq_eq_false_iff_ne.mpr c19
    have c19b1 : (t434 != t444) = true := bne_iff_ne.mpr c19
    exact absurd (Option.some.inj H) Bool.false_ne_true
   rw [if_pos c19] at H
   have c19b0 : (t434 == t444) = true := beq_iff_eq.mpr c19
   have c19b1 : (t434 != t444) = false := bne_eq_false_iff_eq.mpr c19
   clear c19
   by_cases c20 : t435 = t445
   rotate_left
   ·rw [if_neg c20] at H
    have c20b0 : (t435 == t445) = false := beq_eq_false_iff_ne.mpr c20
    have c20b1 : (t435 != t445) = true := bne_iff_ne.mpr c20
    exact absurd (Option.some.inj H) Bool.false_ne_true
   rw [if_pos c20] at H
   have c20b0 : (t435 == t445) = true := beq_iff_eq.mpr c20
   have c20b1 : (t435 != t445) = false := bne_eq_false_iff_eq.mpr c20
   clear c20
   replace H := Y17.mp H
   obtain ⟨t448,A210,H⟩ := H
   try dsimp only at H
   have A21 := Y0 A210
   clear A210
   replace H := Y17.mp H
   obtain ⟨t449,A220,H⟩ := H
   try dsimp only at H
   have A22 := Y0 A220
   clear A220
   by_cases c23 : (t448 == t449) = true
   rotate_left
   ·rw [if_neg c23] at H
    have c23b0 : (t448 == t449) = false := by simpa using c23
    (try (have c23b1 : decide (t448 = t449) = false := by simpa using c23))
    (try (have c23b2 : (t448 == t449) = false := by simpa using c23))
    (try (have c23b3 : ¬ (t448 = t449) := by simpa using c23))
    clear c23
    exact absurd (Option.some.inj H) Bool.false_ne_true
   rw [if_pos c23] at H
   have c23b0 : (t448 == t449) = true := c23
   (try (have c23b1 : decide (t448 = t449) = true := by simpa using c23))
   (try (have c23b2 : (t448 == t449) = true := by simpa using c23))
   clear c23
   replace H := Y17.mp H
   obtain ⟨t450,A240,H⟩ := H
   try dsimp only at H
   have A24 := Y0 A240
   clear A240
   replace H := Y17.mp H
   obtain ⟨t451,A250,H⟩ := H
   try dsimp only at H
   have A25 := Y0 A250
   clear A250
   by_cases c26 : t450.toList = t451.toList
   rotate_left
   ·rw [if_neg c26] at H
    have c26b0 : (t450.toList == t451.toList) = false := beq_eq_false_iff_ne.mpr c26
    have c26b1 : (t450.toList != t451.toList) = true := bne_iff_ne.mpr c26
    exact absurd (Option.some.inj H) Bool.false_ne_true
   rw [if_pos c26] at H
   have c26b0 : (t450.toList == t451.toList) = true := beq_iff_eq.mpr c26
   have c26b1 : (t450.toList != t451.toList) = false := bne_eq_false_iff_eq.mpr c26
   clear c26
   replace H := Y17.mp H
   obtain ⟨t452,A270,H⟩ := H
   try dsimp only at H
   have A27 := Y0 A270
   clear A270
   replace H := Y17.mp H
   obtain ⟨t453,A280,H⟩ := H
   try dsimp only at H
   have A28 := Y0 A280
   clear A280
   by_cases c29 : (t452 == t453) = true
   rotate_left
   ·rw [if_neg c29] at H
    have c29b0 : (t452 == t453) = false := by simpa using c29
    (try (have c29b1 : decide (t452 = t453) = false := by simpa using c29))
    (try (have c29b2 : (t452 == t453) = false := by simpa using c29))
    (try (have c29b3 : ¬ (t452 = t453) := by simpa using c29))
    clear c29
    exact absurd (Option.some.inj H) Bool.false_ne_true
   rw [if_pos c29] at H
   have c29b0 : (t452 == t453) = true := c29
   (try (have c29b1 : decide (t452 = t453) = true := by simpa using c29))
   (try (have c29b2 : (t452 == t453) = true := by simpa using c29))
   clear c29
   replace H := Y17.mp H
   obtain ⟨t454,A300,H⟩ := H
   try dsimp only at H
   have A30 := Y0 A300
   clear A300
   have hv_ := Option.some.inj H
   try go_wp2_with (first | ((with_reducible refine gate_callee (f := 24) rfl ?_);refine goesL_ (some 28) rfl rfl Tryd.func24 (by kernel_rfl) rfl #[.string a0] rfl (by (try simp only [List.map_toArray,List.map_cons,List.map_nil]);first | done | rfl | (simp only [List.length_drop,List.length_take];rfl)) ?_;(with_reducible refine (sexp_Parse.calls a0 t427 t428 t429 t430 t431 t434 t435 _ ?side1 A15.out).mono ?_);(case side1 => exact hG.below (by repeat (with_reducible first | exact HB.out | apply Y3 | apply Y1 | apply Y2 | refine Y4 ?_ GE424.out)));rintro e w31 ⟨v432,rfl,ho0,hb⟩;refine ⟨_,rfl,?_⟩;have n0_ := Y0 (Kd.R_lower (Kd.R_newB ho0 (g := gb424) (o := .cells #[.int .i64 a1_0,.string a1_1,.int .i64 a1_2,.int .i64 a1_3,.slice A1_4 l1_4.length c1_4] 39 (0,0)) (by (with_reducible repeat first | apply Y11 | apply Y13 | apply Y12);exact BK424.out)) (below_size (by repeat (with_reducible first | exact HB.out | apply Y3 | apply Y1 | apply Y2 | refine Y4 ?_ GE424.out))));have n1_ := Y0 (blk_below (g := gb424) (o := .cells #[.int .i64 a1_0,.string a1_1,.int .i64 a1_2,.int .i64 a1_3,.slice A1_4 l1_4.length c1_4] 39 (0,0)) (by (with_reducible repeat first | apply Y11 | apply Y13 | apply Y12);exact BK424.out) hb);have n2_ := Y0 (below_step (by repeat (with_reducible first | exact HB.out | apply Y3 | apply Y1 | apply Y2 | refine Y4 ?_ GE424.out)) hb);clear BK424;clear HB;have HO433 := n0_;have BK424 := n1_;have HB := n2_;clear n0_ n1_ n2_;(try clear hb);(try clear hb2);(try clear hk);(try clear hi);(try clear ho0)) | ((with_reducible refine gate_dst (N := 6) rfl ?_);(try (refine gate_guard (by rfl) ?_;dsimp only));refine box_event ?hg (N := 6) ?hd (cs := #[.int .i64 0,.string (⟨#[]⟩ : ByteArray),.int .i64 0,.int .i64 0,.slice none 0 0]) (t := 39) ?hr ?_;(case hd => rfl);(case hg => rfl);(case hr => first | (go_simp;done) | (go_simp;rfl));intro gb436 hg w32 hbox hb;have n0_ := Y0 (Kd.R_below (Kd.R_elderB (by (with_reducible repeat (first | apply Kd.R_alloc | apply Y6 | apply Y7));exact HO433.out) gb436 (Nat.le_of_eq hg.symm)) hb);have n1_ := Y0 (blk_below (g := gb424) (o := .cells #[.int .i64 a1_0,.string a1_1,.int .i64 a1_2,.int .i64 a1_3,.slice A1_4 l1_4.length c1_4] 39 (0,0)) (by (with_reducible repeat first | apply Y11 | apply Y13 | apply Y12);exact BK424.out) hb);have n2_ := Y0 (below_step (by repeat (with_reducible first | exact HB.out | apply Y3 | apply Y1 | apply Y2 | refine Y4 ?_ GE424.out)) hb);have n3_ := Y0 (hbox);have n4_ := Y0 ((by rw [hg];exact (below_size (by repeat (with_reducible first | exact HB.out | apply Y3 | apply Y1 | apply Y2 | refine Y4 ?_ GE424.out))) : w.heap.size ≤ gb436));have n5_ := Y0 ((by rw [hg];exact (below_size (by repeat (with_reducible first | exact HB.out | apply Y3 | apply Y1 | apply Y2 | refine Y4 ?_ GE424.out))) : w.heap.size ≤ gb436));have n6_ := Y0 ((by rw [hg];exact Nat.ne_of_lt (blk_lt (g := gb424) (o := .cells #[.int .i64 a1_0,.string a1_1,.int .i64 a1_2,.int .i64 a1_3,.slice A1_4 l1_4.length c1_4] 39 (0,0)) (by (with_reducible repeat first | apply Y11 | apply Y13 | apply Y12);exact BK424.out)) : gb424 ≠ gb436));have n7_ := Y0 ((by rw [hg];exact Nat.ne_of_gt (blk_lt (g := gb424) (o := .cells #[.int .i64 a1_0,.string a1_1,.int .i64 a1_2,.int .i64 a1_3,.slice A1_4 l1_4.length c1_4] 39 (0,0)) (by (with_reducible repeat first | apply Y11 | apply Y13 | apply Y12);exact BK424.out)) : gb436 ≠ gb424));clear HO433;clear BK424;clear HB;have HO433 := n0_;have BK424 := n1_;have HB := n2_;have BK436 := n3_;have GW436 := n4_;have GE436 := n5_;have NB424_436 := n6_;have NB436_424 := n7_;clear n0_ n1_ n2_ n3_ n4_ n5_ n6_ n7_;clear hb hbox hg;have hnb33 := NB436_424.out;have hnc33 := NB424_436.out;have ⟨hcz34_0,hcz34_1,hcz34_2,hcz34_3,hcz34_4,hfz34_0,hfz34_1,hfz34_2,hfz34_3,hfz34_4⟩ := sq_box5 BK436.out;obtain ⟨Ao35,co35,eo35⟩ := Kd.R_slice HO433.out;subst eo35) | ((with_reducible refine gate_callee (f := 27) rfl ?_);refine goesL_ (some 34) rfl rfl Tryd.func27 (by kernel_rfl) rfl #[.string a0] rfl (by (try simp only [List.map_toArray,List.map_cons,List.map_nil]);first | done | rfl | (simp only [List.length_drop,List.length_take];rfl)) ?_;(with_reducible refine (truffleref14_Parse.calls kj3 a0 t437 t438 t439 t440 t441 t444 t445 _ A16.out).mono ?_);rintro e w36 ⟨v442,rfl,ho0,hb⟩;refine ⟨_,rfl,?_⟩;have n0_ := Y0 (Kd.R_elder' (by (with_reducible repeat (first | apply Kd.R_alloc | apply Y6 | apply Y7));exact (Kd.R_mono (Kd.R_far (p := ⟨gb436,4,none⟩) (Kd.R_far (p := ⟨gb436,3,none⟩) (Kd.R_far (p := ⟨gb436,2,none⟩) (Kd.R_far (p := ⟨gb436,1,none⟩) (Kd.R_far (p := ⟨gb436,0,none⟩) (Kd.R_mono HO433.out (fun k_ hk => (⟨hk,hk.2⟩ : _ ∧ k_ ≠ gb436))) (fun _ hk => hk.2) (.int .i64 t427)) (fun _ hk => hk.2) (.string t428)) (fun _ hk => hk.2) (.int .i64 t429)) (fun _ hk => hk.2) (.int .i64 t430)) (fun _ hk => hk.2) (.slice Ao35 t431.length co35)) (fun _ h_ => h_.1))) (Kd.R_base ho0) hb);have n1_ := Y0 (Kd.R_lower (Kd.R_newB (Kd.R_newB (Kd.R_new' ho0 (Kd.R_lt (by (with_reducible repeat (first | apply Kd.R_alloc | apply Y6 | apply Y7));exact (Kd.R_mono (Kd.R_far (p := ⟨gb436,4,none⟩) (Kd.R_far (p := ⟨gb436,3,none⟩) (Kd.R_far (p := ⟨gb436,2,none⟩) (Kd.R_far (p := ⟨gb436,1,none⟩) (Kd.R_far (p := ⟨gb436,0,none⟩) (Kd.R_mono HO433.out (fun k_ hk => (⟨hk,hk.2⟩ : _ ∧ k_ ≠ gb436))) (fun _ hk => hk.2) (.int .i64 t427)) (fun _ hk => hk.2) (.string t428)) (fun _ hk => hk.2) (.int .i64 t429)) (fun _ hk => hk.2) (.int .i64 t430)) (fun _ hk => hk.2) (.slice Ao35 t431.length co35)) (fun _ h_ => h_.1))))) (g := gb424) (o := .cells #[.int .i64 a1_0,.string a1_1,.int .i64 a1_2,.int .i64 a1_3,.slice A1_4 l1_4.length c1_4] 39 (0,0)) (by (with_reducible repeat first | apply Y11 | apply Y13 | apply Y12);refine blk_far ?_ NB424_436.out _;(with_reducible repeat first | apply Y11 | apply Y13 | apply Y12);refine blk_far ?_ NB424_436.out _;(with_reducible repeat first | apply Y11 | apply Y13 | apply Y12);refine blk_far ?_ NB424_436.out _;(with_reducible repeat first | apply Y11 | apply Y13 | apply Y12);refine blk_far ?_ NB424_436.out _;(with_reducible repeat first | apply Y11 | apply Y13 | apply Y12);refine blk_far ?_ NB424_436.out _;(with_reducible repeat first | apply Y11 | apply Y13 | apply Y12);exact BK424.out)) (g := gb436) (o := .cells #[.int .i64 t427,.string t428,.int .i64 t429,.int .i64 t430,.slice Ao35 t431.length co35] 39 (0,0)) (by (with_reducible repeat first | apply Y11 | apply Y13 | apply Y12);refine blk_put (cs := #[.int .i64 t427,.string t428,.int .i64 t429,.int .i64 t430,.slice none 0 0]) ?_ 4 _ rfl;(with_reducible repeat first | apply Y11 | apply Y13 | apply Y12);refine blk_put (cs := #[.int .i64 t427,.string t428,.int .i64 t429,.int .i64 0,.slice none 0 0]) ?_ 3 _ rfl;(with_reducible repeat first | apply Y11 | apply Y13 | apply Y12);refine blk_put (cs := #[.int .i64 t427,.string t428,.int .i64 0,.int .i64 0,.slice none 0 0]) ?_ 2 _ rfl;(with_reducible repeat first | apply Y11 | apply Y13 | apply Y12);refine blk_put (cs := #[.int .i64 t427,.string (⟨#[]⟩ : ByteArray),.int .i64 0,.int .i64 0,.slice none 0 0]) ?_ 1 _ rfl;(with_reducible repeat first | apply Y11 | apply Y13 | apply Y12);refine blk_put (cs := #[.int .i64 0,.string (⟨#[]⟩ : ByteArray),.int .i64 0,.int .i64 0,.slice none 0 0]) ?_ 0 _ rfl;(with_reducible repeat first | apply Y11 | apply Y13 | apply Y12);exact BK436.out)) (below_size (by repeat (with_reducible first | exact HB.out | apply Y3 | apply Y1 | apply Y2 | refine Y4 ?_ GE424.out | refine Y4 ?_ GE436.out))));have n2_ := Y0 (blk_below (g := gb424) (o := .cells #[.int .i64 a1_0,.string a1_1,.int .i64 a1_2,.int .i64 a1_3,.slice A1_4 l1_4.length c1_4] 39 (0,0)) (by (with_reducible repeat first | apply Y11 | apply Y13 | apply Y12);refine blk_far ?_ NB424_436.out _;(with_reducible repeat first | apply Y11 | apply Y13 | apply Y12);refine blk_far ?_ NB424_436.out _;(with_reducible repeat first | apply Y11 | apply Y13 | apply Y12);refine blk_far ?_ NB424_436.out _;(with_reducible repeat first | apply Y11 | apply Y13 | apply Y12);refine blk_far ?_ NB424_436.out _;(with_reducible repeat first | apply Y11 | apply Y13 | apply Y12);refine blk_far ?_ NB424_436.out _;(with_reducible repeat first | apply Y11 | apply Y13 | apply Y12);exact BK424.out) hb);have n3_ := Y0 (blk_below (g := gb436) (o := .cells #[.int .i64 t427,.string t428,.int .i64 t429,.int .i64 t430,.slice Ao35 t431.length co35] 39 (0,0)) (by (with_reducible repeat first | apply Y11 | apply Y13 | apply Y12);refine blk_put (cs := #[.int .i64 t427,.string t428,.int .i64 t429,.int .i64 t430,.slice none 0 0]) ?_ 4 _ rfl;(with_reducible repeat first | apply Y11 | apply Y13 | apply Y12);refine blk_put (cs := #[.int .i64 t427,.string t428,.int .i64 t429,.int .i64 0,.slice none 0 0]) ?_ 3 _ rfl;(with_reducible repeat first | apply Y11 | apply Y13 | apply Y12);refine blk_put (cs := #[.int .i64 t427,.string t428,.int .i64 0,.int .i64 0,.slice none 0 0]) ?_ 2 _ rfl;(with_reducible repeat first | apply Y11 | apply Y13 | apply Y12);refine blk_put (cs := #[.int .i64 t427,.string (⟨#[]⟩ : ByteArray),.int .i64 0,.int .i64 0,.slice none 0 0]) ?_ 1 _ rfl;(with_reducible repeat first | apply Y11 | apply Y13 | apply Y12);refine blk_put (cs := #[.int .i64 0,.string (⟨#[]⟩ : ByteArray),.int .i64 0,.int .i64 0,.slice none 0 0]) ?_ 0 _ rfl;(with_reducible repeat first | apply Y11 | apply Y13 | apply Y12);exact BK436.out) hb);have n4_ := Y0 (below_step (by repeat (with_reducible first | exact HB.out | apply Y3 | apply Y1 | apply Y2 | refine Y4 ?_ GE424.out | refine Y4 ?_ GE436.out)) hb);clear HO433;clear BK424;clear BK436;clear HB;have HO433 := n0_;have HO443 := n1_;have BK424 := n2_;have BK436 := n3_;have HB := n4_;clear n0_ n1_ n2_ n3_ n4_;(try clear hb);(try clear hb2);(try clear hk);(try clear hi);(try clear ho0)) | ((with_reducible refine gate_dst (N := 9) rfl ?_);(try (refine gate_guard (by rfl) ?_;dsimp only));refine box_event ?hg (N := 9) ?hd (cs := #[.int .i64 0,.string (⟨#[]⟩ : ByteArray),.int .i64 0,.int .i64 0,.slice none 0 0]) (t := 39) ?hr ?_;(case hd => rfl);(case hg => rfl);(case hr => first | (go_simp;done) | (go_simp;rfl));intro gb446 hg w37 hbox hb;have n0_ := Y0 (Kd.R_below (Kd.R_elderB (by (with_reducible repeat (first | apply Kd.R_alloc | apply Y6 | apply Y7));exact HO433.out) gb446 (Nat.le_of_eq hg.symm)) hb);have n1_ := Y0 (Kd.R_below (Kd.R_elderB (by (with_reducible repeat (first | apply Kd.R_alloc | apply Y6 | apply Y7));exact HO443.out) gb446 (Nat.le_of_eq hg.symm)) hb);have n2_ := Y0 (blk_below (g := gb424) (o := .cells #[.int .i64 a1_0,.string a1_1,.int .i64 a1_2,.int .i64 a1_3,.slice A1_4 l1_4.length c1_4] 39 (0,0)) (by (with_reducible repeat first | apply Y11 | apply Y13 | apply Y12);exact BK424.out) hb);have n3_ := Y0 (blk_below (g := gb436) (o := .cells #[.int .i64 t427,.string t428,.int .i64 t429,.int .i64 t430,.slice Ao35 t431.length co35] 39 (0,0)) (by (with_reducible repeat first | apply Y11 | apply Y13 | apply Y12);exact BK436.out) hb);have n4_ := Y0 (below_step (by repeat (with_reducible first | exact HB.out | apply Y3 | apply Y1 | apply Y2 | refine Y4 ?_ GE424.out | refine Y4 ?_ GE436.out)) hb);have n5_ := Y0 (hbox);have n6_ := Y0 ((by rw [hg];exact (below_size (by repeat (with_reducible first | exact HB.out | apply Y3 | apply Y1 | apply Y2 | refine Y4 ?_ GE424.out | refine Y4 ?_ GE436.out))) : w.heap.size ≤ gb446));have n7_ := Y0 ((by rw [hg];exact (below_size (by repeat (with_reducible first | exact HB.out | apply Y3 | apply Y1 | apply Y2 | refine Y4 ?_ GE424.out | refine Y4 ?_ GE436.out))) : w.heap.size ≤ gb446));have n8_ := Y0 ((by rw [hg];exact Nat.ne_of_lt (blk_lt (g := gb424) (o := .cells #[.int .i64 a1_0,.string a1_1,.int .i64 a1_2,.int .i64 a1_3,.slice A1_4 l1_4.length c1_4] 39 (0,0)) (by (with_reducible repeat first | apply Y11 | apply Y13 | apply Y12);exact BK424.out)) : gb424 ≠ gb446));have n9_ := Y0 ((by rw [hg];exact Nat.ne_of_gt (blk_lt (g := gb424) (o := .cells #[.int .i64 a1_0,.string a1_1,.int .i64 a1_2,.int .i64 a1_3,.slice A1_4 l1_4.length c1_4] 39 (0,0)) (by (with_reducible repeat first | apply Y11 | apply Y13 | apply Y12);exact BK424.out)) : gb446 ≠ gb424));have n10_ := Y0 ((by rw [hg];exact Nat.ne_of_lt (blk_lt (g := gb436) (o := .cells #[.int .i64 t427,.string t428,.int .i64 t429,.int .i64 t430,.slice Ao35 t431.length co35] 39 (0,0)) (by (with_reducible repeat first | apply Y11 | apply Y13 | apply Y12);exact BK436.out)) : gb436 ≠ gb446));have n11_ := Y0 ((by rw [hg];exact Nat.ne_of_gt (blk_lt (g := gb436) (o := .cells #[.int .i64 t427,.string t428,.int .i64 t429,.int .i64 t430,.slice Ao35 t431.length co35] 39 (0,0)) (by (with_reducible repeat first | apply Y11 | apply Y13 | apply Y12);exact BK436.out)) : gb446 ≠ gb436));clear HO433;clear HO443;clear BK424;clear BK436;clear HB;have HO433 := n0_;have HO443 := n1_;have BK424 := n2_;have BK436 := n3_;have HB := n4_;have BK446 := n5_;have GW446 := n6_;have GE446 := n7_;have NB424_446 := n8_;have NB446_424 := n9_;have NB436_446 := n10_;have NB446_436 := n11_;clear n0_ n1_ n2_ n3_ n4_ n5_ n6_ n7_ n8_ n9_ n10_ n11_;clear hb hbox hg;have hnb38 := NB446_424.out;have hnc38 := NB424_446.out;have hnb39 := NB446_436.out;have hnc39 := NB436_446.out;have ⟨hcz40_0,hcz40_1,hcz40_2,hcz40_3,hcz40_4,hfz40_0,hfz40_1,hfz40_2,hfz40_3,hfz40_4⟩ := sq_box5 BK446.out;obtain ⟨Ao41,co41,eo41⟩ := Kd.R_slice HO443.out;subst eo41))
   have n0_ : Aside0 (Kd.R k39 39 (((((w37.setCell ⟨gb446,0,none⟩ (.int .i64 t437)).setCell ⟨gb446,1,none⟩ (.string t438)).setCell ⟨gb446,2,none⟩ (.int .i64 t439)).setCell ⟨gb446,3,none⟩ (.int .i64 t440)).setCell ⟨gb446,4,none⟩ (.slice Ao41 t441.length co41)) w.heap.size (fun k_ => some k_ ≠ (.slice Ao41 t441.length co41 : Value).ownBlock ∧ k_ ≠ gb424 ∧ k_ ≠ gb436 ∧ k_ ≠ gb446) (.slice Ao35 t431.length co35) t431) := ⟨by (with_reducible repeat (first | apply Kd.R_alloc | apply Y6 | apply Y7));exact Kd.R_mono (Kd.R_far (p := ⟨gb446,4,none⟩) (Kd.R_far (p := ⟨gb446,3,none⟩) (Kd.R_far (p := ⟨gb446,2,none⟩) (Kd.R_far (p := ⟨gb446,1,none⟩) (Kd.R_far (p := ⟨gb446,0,none⟩) (Kd.R_mono HO433.out (fun k_ hk => (⟨hk,hk.2⟩ : _ ∧ k_ ≠ gb446))) (fun _ hk => hk.2) (.int .i64 t437)) (fun _ hk => hk.2) (.string t438)) (fun _ hk => hk.2) (.int .i64 t439)) (fun _ hk => hk.2) (.int .i64 t440)) (fun _ hk => hk.2) (.slice Ao41 t441.length co41)) (fun _ hk => ⟨hk.1.1.2,⟨hk.1.1.1.1.2,⟨hk.1.1.1.2,hk.1.2⟩⟩⟩)⟩
   have n1_ : Aside0 (Kd.R k39 39 (((((w37.setCell ⟨gb446,0,none⟩ (.int .i64 t437)).setCell ⟨gb446,1,none⟩ (.string t438)).setCell ⟨gb446,2,none⟩ (.int .i64 t439)).setCell ⟨gb446,3,none⟩ (.int .i64 t440)).setCell ⟨gb446,4,none⟩ (.slice Ao41 t441.length co41)) w.heap.size (fun k_ => some k_ ≠ (.slice Ao35 t431.length co35 : Value).ownBlock ∧ k_ ≠ gb424 ∧ k_ ≠ gb436 ∧ k_ ≠ gb446) (.slice Ao41 t441.length co41) t441) := ⟨by (with_reducible repeat (first | apply Kd.R_alloc | apply Y6 | apply Y7));exact Kd.R_mono (Kd.R_far (p := ⟨gb446,4,none⟩) (Kd.R_far (p := ⟨gb446,3,none⟩) (Kd.R_far (p := ⟨gb446,2,none⟩) (Kd.R_far (p := ⟨gb446,1,none⟩) (Kd.R_far (p := ⟨gb446,0,none⟩) (Kd.R_mono HO443.out (fun k_ hk => (⟨hk,hk.2⟩ : _ ∧ k_ ≠ gb446))) (fun _ hk => hk.2) (.int .i64 t437)) (fun _ hk => hk.2) (.string t438)) (fun _ hk => hk.2) (.int .i64 t439)) (fun _ hk => hk.2) (.int .i64 t440)) (fun _ hk => hk.2) (.slice Ao41 t441.length co41)) (fun _ hk => ⟨hk.1.1.1.1.2,⟨hk.1.1.1.2,⟨hk.1.1.2,hk.1.2⟩⟩⟩)⟩
   have n2_ : Aside0 ((((((w37.setCell ⟨gb446,0,none⟩ (.int .i64 t437)).setCell ⟨gb446,1,none⟩ (.string t438)).setCell ⟨gb446,2,none⟩ (.int .i64 t439)).setCell ⟨gb446,3,none⟩ (.int .i64 t440)).setCell ⟨gb446,4,none⟩ (.slice Ao41 t441.length co41)).heap[gb424]? = some (.cells #[.int .i64 a1_0,.string a1_1,.int .i64 a1_2,.int .i64 a1_3,.slice A1_4 l1_4.length c1_4] 39 (0,0))) := ⟨by (with_reducible repeat first | apply Y11 | apply Y13 | apply Y12);refine blk_far ?_ NB424_446.out _;(with_reducible repeat first | apply Y11 | apply Y13 | apply Y12);refine blk_far ?_ NB424_446.out _;(with_reducible repeat first | apply Y11 | apply Y13 | apply Y12);refine blk_far ?_ NB424_446.out _;(with_reducible repeat first | apply Y11 | apply Y13 | apply Y12);refine blk_far ?_ NB424_446.out _;(with_reducible repeat first | apply Y11 | apply Y13 | apply Y12);refine blk_far ?_ NB424_446.out _;(with_reducible repeat first | apply Y11 | apply Y13 | apply Y12);exact BK424.out⟩
   have n3_ : Aside0 ((((((w37.setCell ⟨gb446,0,none⟩ (.int .i64 t437)).setCell ⟨gb446,1,none⟩ (.string t438)).setCell ⟨gb446,2,none⟩ (.int .i64 t439)).setCell ⟨gb446,3,none⟩ (.int .i64 t440)).setCell ⟨gb446,4,none⟩ (.slice Ao41 t441.length co41)).heap[gb436]? = some (.cells #[.int .i64 t427,.string t428,.int .i64 t429,.int .i64 t430,.slice Ao35 t431.length co35] 39 (0,0))) := ⟨by (with_reducible repeat first | apply Y11 | apply Y13 | apply Y12);refine blk_far ?_ NB436_446.out _;(with_reducible repeat first | apply Y11 | apply Y13 | apply Y12);refine blk_far ?_ NB436_446.out _;(with_reducible repeat first | apply Y11 | apply Y13 | apply Y12);refine blk_far ?_ NB436_446.out _;(with_reducible repeat first | apply Y11 | apply Y13 | apply Y12);refine blk_far ?_ NB436_446.out _;(with_reducible repeat first | apply Y11 | apply Y13 | apply Y12);refine blk_far ?_ NB436_446.out _;(with_reducible repeat first | apply Y11 | apply Y13 | apply Y12);exact BK436.out⟩
   have n4_ : Aside0 ((((((w37.setCell ⟨gb446,0,none⟩ (.int .i64 t437)).setCell ⟨gb446,1,none⟩ (.string t438)).setCell ⟨gb446,2,none⟩ (.int .i64 t439)).setCell ⟨gb446,3,none⟩ (.int .i64 t440)).setCell ⟨gb446,4,none⟩ (.slice Ao41 t441.length co41)).heap[gb446]? = some (.cells #[.int .i64 t437,.string t438,.int .i64 t439,.int .i64 t440,.slice Ao41 t441.length co41] 39 (0,0))) := ⟨by (with_reducible repeat first | apply Y11 | apply Y13 | apply Y12);refine blk_put (cs := #[.int .i64 t437,.string t438,.int .i64 t439,.int .i64 t440,.slice none 0 0]) ?_ 4 _ rfl;(with_reducible repeat first | apply Y11 | apply Y13 | apply Y12);refine blk_put (cs := #[.int .i64 t437,.string t438,.int .i64 t439,.int .i64 0,.slice none 0 0]) ?_ 3 _ rfl;(with_reducible repeat first | apply Y11 | apply Y13 | apply Y12);refine blk_put (cs := #[.int .i64 t437,.string t438,.int .i64 0,.int .i64 0,.slice none 0 0]) ?_ 2 _ rfl;(with_reducible repeat first | apply Y11 | apply Y13 | apply Y12);refine blk_put (cs := #[.int .i64 t437,.string (⟨#[]⟩ : ByteArray),.int .i64 0,.int .i64 0,.slice none 0 0]) ?_ 1 _ rfl;(with_reducible repeat first | apply Y11 | apply Y13 | apply Y12);refine blk_put (cs := #[.int .i64 0,.string (⟨#[]⟩ : ByteArray),.int .i64 0,.int .i64 0,.slice none 0 0]) ?_ 0 _ rfl;(with_reducible repeat first | apply Y11 | apply Y13 | apply Y12);exact BK446.out⟩
   have n5_ : Aside0 (Below w.heap.size w (((((w37.setCell ⟨gb446,0,none⟩ (.int .i64 t437)).setCell ⟨gb446,1,none⟩ (.string t438)).setCell ⟨gb446,2,none⟩ (.int .i64 t439)).setCell ⟨gb446,3,none⟩ (.int .i64 t440)).setCell ⟨gb446,4,none⟩ (.slice Ao41 t441.length co41))) := ⟨by repeat (with_reducible first | exact HB.out | apply Y3 | apply Y1 | apply Y2 | refine Y4 ?_ GE424.out | refine Y4 ?_ GE436.out | refine Y4 ?_ GE446.out)⟩
   (try clear HO433)
   (try clear HO443)
   (try clear BK424)
   (try clear BK436)
   (try clear BK446)
   (try clear HB)
   generalize (((((w37.setCell ⟨gb446,0,none⟩ (.int .i64 t437)).setCell ⟨gb446,1,none⟩ (.string t438)).setCell ⟨gb446,2,none⟩ (.int .i64 t439)).setCell ⟨gb446,3,none⟩ (.int .i64 t440)).setCell ⟨gb446,4,none⟩ (.slice Ao41 t441.length co41)) = w42 at n0_ n1_ n2_ n3_ n4_ n5_ ⊢
   have HO433 := n0_
   have HO443 := n1_
   have BK424 := n2_
   have BK436 := n3_
   have BK446 := n4_
   have HB := n5_
   clear n0_ n1_ n2_ n3_ n4_ n5_
   have n0_ := Y0 (Kd.R_drew HO433.out)
   have n1_ := Y0 (Kd.R_drew HO443.out)
   have n2_ := Y0 (blk_drew BK424.out)
   have n3_ := Y0 (blk_drew BK436.out)
   have n4_ := Y0 (blk_drew BK446.out)
   have n5_ := Y0 (below_drew1 HB.out)
   clear HO433
   clear HO443
   clear BK424
   clear BK436
   clear BK446
   clear HB
   have HO433 := n0_
   have HO443 := n1_
   have BK424 := n2_
   have BK436 := n3_
   have BK446 := n4_
   have HB := n5_
   clear n0_ n1_ n2_ n3_ n4_ n5_
   refine start_ (n := 42) (S := fun w' => w'.cell? ⟨gb436,0,none⟩ = some (.int .i64 t427) ∧ w'.cell? ⟨gb436,1,none⟩ = some (.string t428) ∧ w'.cell? ⟨gb436,2,none⟩ = some (.int .i64 t429) ∧ w'.cell? ⟨gb436,3,none⟩ = some (.int .i64 t430) ∧ w'.cell? ⟨gb436,4,none⟩ = some (.slice Ao35 t431.length co35) ∧ w'.cell? ⟨gb446,0,none⟩ = some (.int .i64 t437) ∧ w'.cell? ⟨gb446,1,none⟩ = some (.string t438) ∧ w'.cell? ⟨gb446,2,none⟩ = some (.int .i64 t439) ∧ w'.cell? ⟨gb446,3,none⟩ = some (.int .i64 t440) ∧ w'.cell? ⟨gb446,4,none⟩ = some (.slice Ao41 t441.length co41) ∧ w'.cell? ⟨gb424,0,none⟩ = some (.int .i64 a1_0) ∧ w'.cell? ⟨gb424,1,none⟩ = some (.string a1_1) ∧ w'.cell? ⟨gb424,2,none⟩ = some (.int .i64 a1_2) ∧ w'.cell? ⟨gb424,3,none⟩ = some (.int .i64 a1_3) ∧ w'.cell? ⟨gb424,4,none⟩ = some (.slice A1_4 l1_4.length c1_4)) (ds := []) #[false,false,false,false,false,false,false,false,false,false,false,false,false,false,false,false,false,false,false,false,false,false,false,false,false,false,false,false,false,false,false,false,false,false,false,false,false,false,false,false,false,false] (by kernel_rfl) rfl rfl ⟨(blk_cell BK436.out 0).trans rfl,(blk_cell BK436.out 1).trans rfl,(blk_cell BK436.out 2).trans rfl,(blk_cell BK436.out 3).trans rfl,(blk_cell BK436.out 4).trans rfl,(blk_cell BK446.out 0).trans rfl,(blk_cell BK446.out 1).trans rfl,(blk_cell BK446.out 2).trans rfl,(blk_cell BK446.out 3).trans rfl,(blk_cell BK446.out 4).trans rfl,(blk_cell BK424.out 0).trans rfl,(blk_cell BK424.out 1).trans rfl,(blk_cell BK424.out 2).trans rfl,(blk_cell BK424.out 3).trans rfl,(blk_cell BK424.out 4).trans rfl⟩ (fun hHeld => ?_);refine with_tabW trufflelaw14_SexpTells.tab6 trufflelaw14_SexpTells.bits6 (fun HT_ HW_ => ?_)
   generalize w42.drew = w43 at HO433 HO443 BK424 BK436 BK446 HB hHeld ⊢
   refine take_ (i := 0) (N := some 38) (v := ?_) (a' := ?_) (sqB 42 1) rfl rfl (take_ofW HT_.out HW_.out (by kernel_rfl)) (fun _ _ _ h => h) (Or.inl ⟨by rfl,?_⟩) hHeld ?_ ?_
   rotate_left
   ·rintro w' ⟨s0,s1,s2,s3,s4,s5,s6,s7,s8,s9,s10,s11,s12,s13,s14⟩
    go_simp
    with_reducible rfl
   rotate_left
   ·simp only [Act.put,Y14,Y15,Y16,i64_w]
    rfl
   refine take_ (i := 1) (N := some 39) (v := ?_) (a' := ?_) (sqB 42 3) rfl rfl (take_ofW HT_.out HW_.out (by kernel_rfl)) (fun _ _ _ h => h) (Or.inl ⟨by rfl,?_⟩) hHeld ?_ ?_
   rotate_left
   ·rintro w' ⟨s0,s1,s2,s3,s4,s5,s6,s7,s8,s9,s10,s11,s12,s13,s14⟩
    go_simp
    with_reducible rfl
   rotate_left
   ·simp only [Act.put,Y14,Y15,Y16,i64_w]
    rfl
   refine one_ (i := 2) (N := some 40) (sqB 42 7) rfl rfl (one_of HT_.out (by kernel_rfl)) (by decide) (fun K hK => ?_)
   refine goes_ Tryd.func28 (by kernel_rfl) rfl #[.agg #[.int .i64 t427,.string t428,.int .i64 t429,.int .i64 t430,.slice Ao35 t431.length co35],.agg #[.int .i64 t437,.string t438,.int .i64 t439,.int .i64 t440,.slice Ao41 t441.length co41],.bool true] (by rfl) rfl rfl (by (try simp only [List.map_toArray,List.map_cons,List.map_nil]);first | done | rfl | (simp only [List.length_drop,List.length_take];rfl)) ?_
   with_reducible refine (truffleref14_Same.calls kj3 t427 t428 t429 t430 _ _ t431 t437 t438 t439 t440 _ _ t441 true true _ ?side1 ?side2 ?side3 ?side4 A17.out).mono ?_
   (case side1 => repeat (first | exact (Kd.R_reads' HO433.out).2.2 | (with_reducible refine Kd.C_alloc ?_ _) | (with_reducible refine Kd.C_drewN ?_ _) | (with_reducible refine Kd.C_drew ?_)))
   (case side2 => exact (Kd.R_reads' HO433.out).2.1)
   (case side3 => repeat (first | exact (Kd.R_reads' HO443.out).2.2 | (with_reducible refine Kd.C_alloc ?_ _) | (with_reducible refine Kd.C_drewN ?_ _) | (with_reducible refine Kd.C_drew ?_)))
   (case side4 => exact (Kd.R_reads' HO443.out).2.1)
   rintro e w44 ⟨rfl,hb⟩
   refine ⟨_,rfl,?_⟩
   have n0_ := Y0 (Kd.R_below (by (with_reducible repeat (first | apply Kd.R_alloc | apply Y6 | apply Y7));exact HO433.out) hb)
   have n1_ := Y0 (Kd.R_below (by (with_reducible repeat (first | apply Kd.R_alloc | apply Y6 | apply Y7));exact HO443.out) hb)
   have n2_ := Y0 (blk_below (g := gb424) (o := .cells #[.int .i64 a1_0,.string a1_1,.int .i64 a1_2,.int .i64 a1_3,.slice A1_4 l1_4.length c1_4] 39 (0,0)) (by (with_reducible repeat first | apply Y11 | apply Y13 | apply Y12);exact BK424.out) hb)
   have n3_ := Y0 (blk_below (g := gb436) (o := .cells #[.int .i64 t427,.string t428,.int .i64 t429,.int .i64 t430,.slice Ao35 t431.length co35] 39 (0,0)) (by (with_reducible repeat first | apply Y11 | apply Y13 | apply Y12);exact BK436.out) hb)
   have n4_ := Y0 (blk_below (g := gb446) (o := .cells #[.int .i64 t437,.string t438,.int .i64 t439,.int .i64 t440,.slice Ao41 t441.length co41] 39 (0,0)) (by (with_reducible repeat first | apply Y11 | apply Y13 | apply Y12);exact BK446.out) hb)
   have n5_ := Y0 (below_step (by repeat (with_reducible first | exact HB.out | apply Y3 | apply Y1 | apply Y2 | refine Y4 ?_ GE424.out | refine Y4 ?_ GE436.out | refine Y4 ?_ GE446.out)) hb)
   clear HO433
   clear HO443
   clear BK424
   clear BK436
   clear BK446
   clear HB
   have HO433 := n0_
   have HO443 := n1_
   have BK424 := n2_
   have BK436 := n3_
   have BK446 := n4_
   have HB := n5_
   clear n0_ n1_ n2_ n3_ n4_ n5_
   (try clear hb)
   (try clear hb2)
   (try clear hk)
   (try clear hi)
   refine hK.out _ _ ⟨(blk_cell BK436.out 0).trans rfl,(blk_cell BK436.out 1).trans rfl,(blk_cell BK436.out 2).trans rfl,(blk_cell BK436.out 3).trans rfl,(blk_cell BK436.out 4).trans rfl,(blk_cell BK446.out 0).trans rfl,(blk_cell BK446.out 1).trans rfl,(blk_cell BK446.out 2).trans rfl,(blk_cell BK446.out 3).trans rfl,(blk_cell BK446.out 4).trans rfl,(blk_cell BK424.out 0).trans rfl,(blk_cell BK424.out 1).trans rfl,(blk_cell BK424.out 2).trans rfl,(blk_cell BK424.out 3).trans rfl,(blk_cell BK424.out 4).trans rfl⟩ (fun hHeld => ?_)
   clear hK K
   refine norm_ (a' := ?_) ?_ ?_
   rotate_left
   ·show Act.put _ (some 40) _ = _
    simp only [Act.put,Y14,Y15,Y16,i64_w]
    rfl
   refine pure_ (i := 3) (N := some 41) (v := ?_) (a' := ?_) (sqB 42 15) rfl rfl (any_of HT_.out (by kernel_rfl)) (fun _ _ _ h => h) (Or.inl ⟨by rfl,?_⟩) ?_ ?_
   rotate_left
   ·intro w'
    go_simp
    with_reducible rfl
   rotate_left
   ·simp only [Act.put,Y14,Y15,Y16,i64_w]
    rfl
   refine pure_ (i := 4) (N := some 42) (v := ?_) (a' := ?_) (sqB 42 31) rfl rfl (any_of HT_.out (by kernel_rfl)) (fun _ _ _ h => h) (Or.inl ⟨by rfl,?_⟩) ?_ ?_
   rotate_left
   ·intro w'
    go_simp
    with_reducible rfl
   rotate_left
   ·simp only [Act.put,Y14,Y15,Y16,i64_w]
    rfl
   refine pure_ (i := 5) (N := some 43) (v := ?_) (a' := ?_) (sqB 42 63) rfl rfl (any_of HT_.out (by kernel_rfl)) (fun _ _ _ h => h) (Or.inl ⟨by rfl,?_⟩) ?_ ?_
   rotate_left
   ·intro w'
    go_simp
    with_reducible rfl
   rotate_left
   ·simp only [Act.put,Y14,Y15,Y16,i64_w]
    rfl
   refine pure_ (i := 6) (N := some 44) (v := ?_) (a' := ?_) (sqB 42 127) rfl rfl (any_of HT_.out (by kernel_rfl)) (fun _ _ _ h => h) (Or.inl ⟨by rfl,?_⟩) ?_ ?_
   rotate_left
   ·intro w'
    go_simp
    with_reducible rfl
   rotate_left
   ·simp only [Act.put,Y14,Y15,Y16,i64_w]
    rfl
   refine pure_ (i := 7) (N := some 45) (v := ?_) (a' := ?_) (sqB 42 255) rfl rfl (any_of HT_.out (by kernel_rfl)) (fun _ _ _ h => h) (Or.inl ⟨by rfl,?_⟩) ?_ ?_
   rotate_left
   ·intro w'
    go_simp
    with_reducible rfl
   rotate_left
   ·simp only [Act.put,Y14,Y15,Y16,i64_w]
    rfl
   refine pure_ (i := 8) (N := some 46) (v := ?_) (a' := ?_) (sqB 42 511) rfl rfl (any_of HT_.out (by kernel_rfl)) (fun _ _ _ h => h) (Or.inl ⟨by rfl,?_⟩) ?_ ?_
   rotate_left
   ·intro w'
    go_simp
    with_reducible rfl
   rotate_left
   ·simp only [Act.put,Y14,Y15,Y16,i64_w]
    rfl
   refine pure_ (i := 9) (N := some 47) (v := ?_) (a' := ?_) (sqB 42 1023) rfl rfl (any_of HT_.out (by kernel_rfl)) (fun _ _ _ h => h) (Or.inl ⟨by rfl,?_⟩) ?_ ?_
   rotate_left
   ·intro w'
    go_simp
    with_reducible rfl
   rotate_left
   ·simp only [Act.put,Y14,Y15,Y16,i64_w]
    rfl
   refine pure_ (i := 10) (N := some 48) (v := ?_) (a' := ?_) (sqB 42 2047) rfl rfl (any_of HT_.out (by kernel_rfl)) (fun _ _ _ h => h) (Or.inl ⟨by rfl,?_⟩) ?_ ?_
   rotate_left
   ·intro w'
    go_simp
    with_reducible rfl
   rotate_left
   ·simp only [Act.put,Y14,Y15,Y16,i64_w]
    rfl
   refine pure_ (i := 11) (N := some 49) (v := ?_) (a' := ?_) (sqB 42 4095) rfl rfl (any_of HT_.out (by kernel_rfl)) (fun _ _ _ h => h) (Or.inl ⟨by rfl,?_⟩) ?_ ?_
   rotate_left
   ·intro w'
    go_simp
    with_reducible rfl
   rotate_left
   ·simp only [Act.put,Y14,Y15,Y16,i64_w]
    rfl
   refine pure_ (i := 12) (N := some 50) (v := ?_) (a' := ?_) (sqB 42 8191) rfl rfl (any_of HT_.out (by kernel_rfl)) (fun _ _ _ h => h) (Or.inl ⟨by rfl,?_⟩) ?_ ?_
   rotate_left
   ·intro w'
    go_simp
    with_reducible rfl
   rotate_left
   ·simp only [Act.put,Y14,Y15,Y16,i64_w]
    rfl
   refine pure_ (i := 13) (N := some 51) (v := ?_) (a' := ?_) (sqB 42 16383) rfl rfl (any_of HT_.out (by kernel_rfl)) (fun _ _ _ h => h) (Or.inl ⟨by rfl,?_⟩) ?_ ?_
   rotate_left
   ·intro w'
    go_simp
    with_reducible rfl
   rotate_left
   ·simp only [Act.put,Y14,Y15,Y16,i64_w]
    rfl
   refine take_ (i := 14) (N := some 52) (v := ?_) (a' := ?_) (sqB 42 32767) rfl rfl (take_ofW HT_.out HW_.out (by kernel_rfl)) (fun _ _ _ h => h) (Or.inl ⟨by rfl,?_⟩) hHeld ?_ ?_
   rotate_left
   ·rintro w' ⟨s0,s1,s2,s3,s4,s5,s6,s7,s8,s9,s10,s11,s12,s13,s14⟩
    go_simp
    with_reducible rfl
   rotate_left
   ·simp only [Act.put,Y14,Y15,Y16,i64_w]
    rfl
   refine take_ (i := 16) (N := some 54) (v := ?_) (a' := ?_) (sqB 42 98303) rfl rfl (take_ofW HT_.out HW_.out (by kernel_rfl)) (fun _ _ _ h => h) (Or.inl ⟨by rfl,?_⟩) hHeld ?_ ?_
   rotate_left
   ·rintro w' ⟨s0,s1,s2,s3,s4,s5,s6,s7,s8,s9,s10,s11,s12,s13,s14⟩
    go_simp
    with_reducible rfl
   rotate_left
   ·simp only [Act.put,Y14,Y15,Y16,i64_w]
    rfl
   refine one_ (i := 15) (N := some 53) (sqB 42 131071) rfl rfl (one_of HT_.out (by kernel_rfl)) (by decide) (fun K hK => ?_)
   refine goes_ Tryd.func25 (by kernel_rfl) rfl #[.agg #[.int .i64 a1_0,.string a1_1,.int .i64 a1_2,.int .i64 a1_3,.slice A1_4 l1_4.length c1_4]] (by rfl) rfl rfl (by (try simp only [List.map_toArray,List.map_cons,List.map_nil]);first | done | rfl | (simp only [List.length_drop,List.length_take];rfl)) ?_
   with_reducible refine (sexp_May.calls a1_0 a1_1 a1_2 a1_3 _ _ l1_4 t448 _ ?side1 ?side2 ?side3 A21.out).mono ?_
   (case side1 => exact hG.below (by repeat (with_reducible first | exact HB.out | apply Y3 | apply Y1 | apply Y2 | refine Y4 ?_ GE424.out | refine Y4 ?_ GE436.out | refine Y4 ?_ GE446.out)))
   (case side2 => repeat (first | exact (Kd.C_below HR1_4.out HB.out) | (with_reducible refine Kd.C_alloc ?_ _) | (with_reducible refine Kd.C_drewN ?_ _) | (with_reducible refine Kd.C_drew ?_)))
   (case side3 => exact HC1_4.out)
   rintro e w45 ⟨rfl,hb⟩
   refine ⟨_,rfl,?_⟩
   have n0_ := Y0 (Kd.R_below (by (with_reducible repeat (first | apply Kd.R_alloc | apply Y6 | apply Y7));exact HO433.out) hb)
   have n1_ := Y0 (Kd.R_below (by (with_reducible repeat (first | apply Kd.R_alloc | apply Y6 | apply Y7));exact HO443.out) hb)
   have n2_ := Y0 (blk_below (g := gb424) (o := .cells #[.int .i64 a1_0,.string a1_1,.int .i64 a1_2,.int .i64 a1_3,.slice A1_4 l1_4.length c1_4] 39 (0,0)) (by (with_reducible repeat first | apply Y11 | apply Y13 | apply Y12);exact BK424.out) hb)
   have n3_ := Y0 (blk_below (g := gb436) (o := .cells #[.int .i64 t427,.string t428,.int .i64 t429,.int .i64 t430,.slice Ao35 t431.length co35] 39 (0,0)) (by (with_reducible repeat first | apply Y11 | apply Y13 | apply Y12);exact BK436.out) hb)
   have n4_ := Y0 (blk_below (g := gb446) (o := .cells #[.int .i64 t437,.string t438,.int .i64 t439,.int .i64 t440,.slice Ao41 t441.length co41] 39 (0,0)) (by (with_reducible repeat first | apply Y11 | apply Y13 | apply Y12);exact BK446.out) hb)
   have n5_ := Y0 (below_step (by repeat (with_reducible first | exact HB.out | apply Y3 | apply Y1 | apply Y2 | refine Y4 ?_ GE424.out | refine Y4 ?_ GE436.out | refine Y4 ?_ GE446.out)) hb)
   clear HO433
   clear HO443
   clear BK424
   clear BK436
   clear BK446
   clear HB
   have HO433 := n0_
   have HO443 := n1_
   have BK424 := n2_
   have BK436 := n3_
   have BK446 := n4_
   have HB := n5_
   clear n0_ n1_ n2_ n3_ n4_ n5_
   (try clear hb)
   (try clear hb2)
   (try clear hk)
   (try clear hi)
   refine hK.out _ _ ⟨(blk_cell BK436.out 0).trans rfl,(blk_cell BK436.out 1).trans rfl,(blk_cell BK436.out 2).trans rfl,(blk_cell BK436.out 3).trans rfl,(blk_cell BK436.out 4).trans rfl,(blk_cell BK446.out 0).trans rfl,(blk_cell BK446.out 1).trans rfl,(blk_cell BK446.out 2).trans rfl,(blk_cell BK446.out 3).trans rfl,(blk_cell BK446.out 4).trans rfl,(blk_cell BK424.out 0).trans rfl,(blk_cell BK424.out 1).trans rfl,(blk_cell BK424.out 2).trans rfl,(blk_cell BK424.out 3).trans rfl,(blk_cell BK424.out 4).trans rfl⟩ (fun hHeld => ?_)
   clear hK K
   refine norm_ (a' := ?_) ?_ ?_
   rotate_left
   ·show Act.put _ (some 53) _ = _
    simp only [Act.put,Y14,Y15,Y16,i64_w]
    rfl
   refine one_ (i := 17) (N := some 55) (sqB 42 262143) rfl rfl (one_of HT_.out (by kernel_rfl)) (by decide) (fun K hK => ?_)
   refine goes_ Tryd.func29 (by kernel_rfl) rfl #[.agg #[.int .i64 a1_0,.string a1_1,.int .i64 a1_2,.int .i64 a1_3,.slice A1_4 l1_4.length c1_4]] (by rfl) rfl rfl (by (try simp only [List.map_toArray,List.map_cons,List.map_nil]);first | done | rfl | (simp only [List.length_drop,List.length_take];rfl)) ?_
   with_reducible refine (truffleref14_May.calls kj3 a1_0 a1_1 a1_2 a1_3 _ _ l1_4 t449 _ ?side1 ?side2 A22.out).mono ?_
   (case side1 => repeat (first | exact (Kd.C_below HR1_4.out HB.out) | (with_reducible refine Kd.C_alloc ?_ _) | (with_reducible refine Kd.C_drewN ?_ _) | (with_reducible refine Kd.C_drew ?_)))
   (case side2 => exact HC1_4.out)
   rintro e w46 ⟨rfl,hb⟩
   refine ⟨_,rfl,?_⟩
   have n0_ := Y0 (Kd.R_below (by (with_reducible repeat (first | apply Kd.R_alloc | apply Y6 | apply Y7));exact HO433.out) hb)
   have n1_ := Y0 (Kd.R_below (by (with_reducible repeat (first | apply Kd.R_alloc | apply Y6 | apply Y7));exact HO443.out) hb)
   have n2_ := Y0 (blk_below (g := gb424) (o := .cells #[.int .i64 a1_0,.string a1_1,.int .i64 a1_2,.int .i64 a1_3,.slice A1_4 l1_4.length c1_4] 39 (0,0)) (by (with_reducible repeat first | apply Y11 | apply Y13 | apply Y12);exact BK424.out) hb)
   have n3_ := Y0 (blk_below (g := gb436) (o := .cells #[.int .i64 t427,.string t428,.int .i64 t429,.int .i64 t430,.slice Ao35 t431.length co35] 39 (0,0)) (by (with_reducible repeat first | apply Y11 | apply Y13 | apply Y12);exact BK436.out) hb)
   have n4_ := Y0 (blk_below (g := gb446) (o := .cells #[.int .i64 t437,.string t438,.int .i64 t439,.int .i64 t440,.slice Ao41 t441.length co41] 39 (0,0)) (by (with_reducible repeat first | apply Y11 | apply Y13 | apply Y12);exact BK446.out) hb)
   have n5_ := Y0 (below_step (by repeat (with_reducible first | exact HB.out | apply Y3 | apply Y1 | apply Y2 | refine Y4 ?_ GE424.out | refine Y4 ?_ GE436.out | refine Y4 ?_ GE446.out)) hb)
   clear HO433
   clear HO443
   clear BK424
   clear BK436
   clear BK446
   clear HB
   have HO433 := n0_
   have HO443 := n1_
   have BK424 := n2_
   have BK436 := n3_
   have BK446 := n4_
   have HB := n5_
   clear n0_ n1_ n2_ n3_ n4_ n5_
   (try clear hb)
   (try clear hb2)
   (try clear hk)
   (try clear hi)
   refine hK.out _ _ ⟨(blk_cell BK436.out 0).trans rfl,(blk_cell BK436.out 1).trans rfl,(blk_cell BK436.out 2).trans rfl,(blk_cell BK436.out 3).trans rfl,(blk_cell BK436.out 4).trans rfl,(blk_cell BK446.out 0).trans rfl,(blk_cell BK446.out 1).trans rfl,(blk_cell BK446.out 2).trans rfl,(blk_cell BK446.out 3).trans rfl,(blk_cell BK446.out 4).trans rfl,(blk_cell BK424.out 0).trans rfl,(blk_cell BK424.out 1).trans rfl,(blk_cell BK424.out 2).trans rfl,(blk_cell BK424.out 3).trans rfl,(blk_cell BK424.out 4).trans rfl⟩ (fun hHeld => ?_)
   clear hK K
   refine norm_ (a' := ?_) ?_ ?_
   rotate_left
   ·show Act.put _ (some 55) _ = _
    simp only [Act.put,Y14,Y15,Y16,i64_w]
    rfl
   refine pure_ (i := 18) (N := some 56) (v := ?_) (a' := ?_) (sqB 42 524287) rfl rfl (any_of HT_.out (by kernel_rfl)) (fun _ _ _ h => h) (Or.inl ⟨by rfl,?_⟩) ?_ ?_
   rotate_left
   ·intro w'
    go_simp
    with_reducible rfl
   rotate_left
   ·simp only [Act.put,Y14,Y15,Y16,i64_w]
    rfl
   refine pure_ (i := 19) (N := some 57) (v := ?_) (a' := ?_) (sqB 42 1048575) rfl rfl (any_of HT_.out (by kernel_rfl)) (fun _ _ _ h => h) (Or.inl ⟨by rfl,?_⟩) ?_ ?_
   rotate_left
   ·intro w'
    go_simp
    with_reducible rfl
   rotate_left
   ·simp only [Act.put,Y14,Y15,Y16,i64_w]
    rfl
   refine pure_ (i := 20) (N := some 58) (v := ?_) (a' := ?_) (sqB 42 2097151) rfl rfl (any_of HT_.out (by kernel_rfl)) (fun _ _ _ h => h) (Or.inl ⟨by rfl,?_⟩) ?_ ?_
   rotate_left
   ·intro w'
    go_simp
    with_reducible rfl
   rotate_left
   ·simp only [Act.put,Y14,Y15,Y16,i64_w]
    rfl
   refine take_ (i := 21) (N := some 59) (v := ?_) (a' := ?_) (sqB 42 4194303) rfl rfl (take_ofW HT_.out HW_.out (by kernel_rfl)) (fun _ _ _ h => h) (Or.inl ⟨by rfl,?_⟩) hHeld ?_ ?_
   rotate_left
   ·rintro w' ⟨s0,s1,s2,s3,s4,s5,s6,s7,s8,s9,s10,s11,s12,s13,s14⟩
    go_simp
    with_reducible rfl
   rotate_left
   ·simp only [Act.put,Y14,Y15,Y16,i64_w]
    rfl
   refine take_ (i := 23) (N := some 61) (v := ?_) (a' := ?_) (sqB 42 12582911) rfl rfl (take_ofW HT_.out HW_.out (by kernel_rfl)) (fun _ _ _ h => h) (Or.inl ⟨by rfl,?_⟩) hHeld ?_ ?_
   rotate_left
   ·rintro w' ⟨s0,s1,s2,s3,s4,s5,s6,s7,s8,s9,s10,s11,s12,s13,s14⟩
    go_simp
    with_reducible rfl
   rotate_left
   ·simp only [Act.put,Y14,Y15,Y16,i64_w]
    rfl
   refine one_ (i := 22) (N := some 60) (sqB 42 16777215) rfl rfl (one_of HT_.out (by kernel_rfl)) (by decide) (fun K hK => ?_)
   refine goes_ Tryd.func30 (by kernel_rfl) rfl #[.agg #[.int .i64 a1_0,.string a1_1,.int .i64 a1_2,.int .i64 a1_3,.slice A1_4 l1_4.length c1_4]] (by rfl) rfl rfl (by (try simp only [List.map_toArray,List.map_cons,List.map_nil]);first | done | rfl | (simp only [List.length_drop,List.length_take];rfl)) ?_
   with_reducible refine (sexp_Print.calls a1_0 a1_1 a1_2 a1_3 _ _ l1_4 t450 _ ?side1 ?side2 ?side3 A24.out).mono ?_
   (case side1 => exact hG.below (by repeat (with_reducible first | exact HB.out | apply Y3 | apply Y1 | apply Y2 | refine Y4 ?_ GE424.out | refine Y4 ?_ GE436.out | refine Y4 ?_ GE446.out)))
   (case side2 => repeat (first | exact (Kd.C_below HR1_4.out HB.out) | (with_reducible refine Kd.C_alloc ?_ _) | (with_reducible refine Kd.C_drewN ?_ _) | (with_reducible refine Kd.C_drew ?_)))
   (case side3 => exact HC1_4.out)
   rintro e w47 ⟨rfl,hb⟩
   refine ⟨_,rfl,?_⟩
   have n0_ := Y0 (Kd.R_below (by (with_reducible repeat (first | apply Kd.R_alloc | apply Y6 | apply Y7));exact HO433.out) hb)
   have n1_ := Y0 (Kd.R_below (by (with_reducible repeat (first | apply Kd.R_alloc | apply Y6 | apply Y7));exact HO443.out) hb)
   have n2_ := Y0 (blk_below (g := gb424) (o := .cells #[.int .i64 a1_0,.string a1_1,.int .i64 a1_2,.int .i64 a1_3,.slice A1_4 l1_4.length c1_4] 39 (0,0)) (by (with_reducible repeat first | apply Y11 | apply Y13 | apply Y12);exact BK424.out) hb)
   have n3_ := Y0 (blk_below (g := gb436) (o := .cells #[.int .i64 t427,.string t428,.int .i64 t429,.int .i64 t430,.slice Ao35 t431.length co35] 39 (0,0)) (by (with_reducible repeat first | apply Y11 | apply Y13 | apply Y12);exact BK436.out) hb)
   have n4_ := Y0 (blk_below (g := gb446) (o := .cells #[.int .i64 t437,.string t438,.int .i64 t439,.int .i64 t440,.slice Ao41 t441.length co41] 39 (0,0)) (by (with_reducible repeat first | apply Y11 | apply Y13 | apply Y12);exact BK446.out) hb)
   have n5_ := Y0 (below_step (by repeat (with_reducible first | exact HB.out | apply Y3 | apply Y1 | apply Y2 | refine Y4 ?_ GE424.out | refine Y4 ?_ GE436.out | refine Y4 ?_ GE446.out)) hb)
   clear HO433
   clear HO443
   clear BK424
   clear BK436
   clear BK446
   clear HB
   have HO433 := n0_
   have HO443 := n1_
   have BK424 := n2_
   have BK436 := n3_
   have BK446 := n4_
   have HB := n5_
   clear n0_ n1_ n2_ n3_ n4_ n5_
   (try clear hb)
   (try clear hb2)
   (try clear hk)
   (try clear hi)
   refine hK.out _ _ ⟨(blk_cell BK436.out 0).trans rfl,(blk_cell BK436.out 1).trans rfl,(blk_cell BK436.out 2).trans rfl,(blk_cell BK436.out 3).trans rfl,(blk_cell BK436.out 4).trans rfl,(blk_cell BK446.out 0).trans rfl,(blk_cell BK446.out 1).trans rfl,(blk_cell BK446.out 2).trans rfl,(blk_cell BK446.out 3).trans rfl,(blk_cell BK446.out 4).trans rfl,(blk_cell BK424.out 0).trans rfl,(blk_cell BK424.out 1).trans rfl,(blk_cell BK424.out 2).trans rfl,(blk_cell BK424.out 3).trans rfl,(blk_cell BK424.out 4).trans rfl⟩ (fun hHeld => ?_)
   clear hK K
   refine norm_ (a' := ?_) ?_ ?_
   rotate_left
   ·show Act.put _ (some 60) _ = _
    simp only [Act.put,Y14,Y15,Y16,i64_w]
    rfl
   refine one_ (i := 24) (N := some 62) (sqB 42 33554431) rfl rfl (one_of HT_.out (by kernel_rfl)) (by decide) (fun K hK => ?_)
   refine goes_ Tryd.func31 (by kernel_rfl) rfl #[.agg #[.int .i64 a1_0,.string a1_1,.int .i64 a1_2,.int .i64 a1_3,.slice A1_4 l1_4.length c1_4]] (by rfl) rfl rfl (by (try simp only [List.map_toArray,List.map_cons,List.map_nil]);first | done | rfl | (simp only [List.length_drop,List.length_take];rfl)) ?_
   with_reducible refine (truffleref14_Print.calls kj3 a1_0 a1_1 a1_2 a1_3 _ _ l1_4 t451 _ ?side1 ?side2 A25.out).mono ?_
   (case side1 => repeat (first | exact (Kd.C_below HR1_4.out HB.out) | (with_reducible refine Kd.C_alloc ?_ _) | (with_reducible refine Kd.C_drewN ?_ _) | (with_reducible refine Kd.C_drew ?_)))
   (case side2 => exact HC1_4.out)
   rintro e w48 ⟨rfl,hb⟩
   refine ⟨_,rfl,?_⟩
   have n0_ := Y0 (Kd.R_below (by (with_reducible repeat (first | apply Kd.R_alloc | apply Y6 | apply Y7));exact HO433.out) hb)
   have n1_ := Y0 (Kd.R_below (by (with_reducible repeat (first | apply Kd.R_alloc | apply Y6 | apply Y7));exact HO443.out) hb)
   have n2_ := Y0 (blk_below (g := gb424) (o := .cells #[.int .i64 a1_0,.string a1_1,.int .i64 a1_2,.int .i64 a1_3,.slice A1_4 l1_4.length c1_4] 39 (0,0)) (by (with_reducible repeat first | apply Y11 | apply Y13 | apply Y12);exact BK424.out) hb)
   have n3_ := Y0 (blk_below (g := gb436) (o := .cells #[.int .i64 t427,.string t428,.int .i64 t429,.int .i64 t430,.slice Ao35 t431.length co35] 39 (0,0)) (by (with_reducible repeat first | apply Y11 | apply Y13 | apply Y12);exact BK436.out) hb)
   have n4_ := Y0 (blk_below (g := gb446) (o := .cells #[.int .i64 t437,.string t438,.int .i64 t439,.int .i64 t440,.slice Ao41 t441.length co41] 39 (0,0)) (by (with_reducible repeat first | apply Y11 | apply Y13 | apply Y12);exact BK446.out) hb)
   have n5_ := Y0 (below_step (by repeat (with_reducible first | exact HB.out | apply Y3 | apply Y1 | apply Y2 | refine Y4 ?_ GE424.out | refine Y4 ?_ GE436.out | refine Y4 ?_ GE446.out)) hb)
   clear HO433
   clear HO443
   clear BK424
   clear BK436
   clear BK446
   clear HB
   have HO433 := n0_
   have HO443 := n1_
   have BK424 := n2_
   have BK436 := n3_
   have BK446 := n4_
   have HB := n5_
   clear n0_ n1_ n2_ n3_ n4_ n5_
   (try clear hb)
   (try clear hb2)
   (try clear hk)
   (try clear hi)
   refine hK.out _ _ ⟨(blk_cell BK436.out 0).trans rfl,(blk_cell BK436.out 1).trans rfl,(blk_cell BK436.out 2).trans rfl,(blk_cell BK436.out 3).trans rfl,(blk_cell BK436.out 4).trans rfl,(blk_cell BK446.out 0).trans rfl,(blk_cell BK446.out 1).trans rfl,(blk_cell BK446.out 2).trans rfl,(blk_cell BK446.out 3).trans rfl,(blk_cell BK446.out 4).trans rfl,(blk_cell BK424.out 0).trans rfl,(blk_cell BK424.out 1).trans rfl,(blk_cell BK424.out 2).trans rfl,(blk_cell BK424.out 3).trans rfl,(blk_cell BK424.out 4).trans rfl⟩ (fun hHeld => ?_)
   clear hK K
   refine norm_ (a' := ?_) ?_ ?_
   rotate_left
   ·show Act.put _ (some 62) _ = _
    simp only [Act.put,Y14,Y15,Y16,i64_w]
    rfl
   refine pure_ (i := 25) (N := some 63) (v := ?_) (a' := ?_) (sqB 42 67108863) rfl rfl (any_of HT_.out (by kernel_rfl)) (fun _ _ _ h => h) (Or.inl ⟨by rfl,?_⟩) ?_ ?_
   rotate_left
   ·intro w'
    go_simp
    with_reducible rfl
   rotate_left
   ·simp only [Act.put,Y14,Y15,Y16,i64_w]
    rfl
   refine pure_ (i := 26) (N := some 64) (v := ?_) (a' := ?_) (sqB 42 134217727) rfl rfl (any_of HT_.out (by kernel_rfl)) (fun _ _ _ h => h) (Or.inl ⟨by rfl,?_⟩) ?_ ?_
   rotate_left
   ·intro w'
    go_simp
    with_reducible rfl
   rotate_left
   ·simp only [Act.put,Y14,Y15,Y16,i64_w]
    rfl
   refine pure_ (i := 27) (N := some 65) (v := ?_) (a' := ?_) (sqB 42 268435455) rfl rfl (any_of HT_.out (by kernel_rfl)) (fun _ _ _ h => h) (Or.inl ⟨by rfl,?_⟩) ?_ ?_
   rotate_left
   ·intro w'
    go_simp
    with_reducible rfl
   rotate_left
   ·simp only [Act.put,Y14,Y15,Y16,i64_w]
    rfl
   refine take_ (i := 28) (N := some 66) (v := ?_) (a' := ?_) (sqB 42 536870911) rfl rfl (take_ofW HT_.out HW_.out (by kernel_rfl)) (fun _ _ _ h => h) (Or.inl ⟨by rfl,?_⟩) hHeld ?_ ?_
   rotate_left
   ·rintro w' ⟨s0,s1,s2,s3,s4,s5,s6,s7,s8,s9,s10,s11,s12,s13,s14⟩
    go_simp
    with_reducible rfl
   rotate_left
   ·simp only [Act.put,Y14,Y15,Y16,i64_w]
    rfl
   refine take_ (i := 29) (N := some 67) (v := ?_) (a' := ?_) (sqB 42 1073741823) rfl rfl (take_ofW HT_.out HW_.out (by kernel_rfl)) (fun _ _ _ h => h) (Or.inl ⟨by rfl,?_⟩) hHeld ?_ ?_
   rotate_left
   ·rintro w' ⟨s0,s1,s2,s3,s4,s5,s6,s7,s8,s9,s10,s11,s12,s13,s14⟩
    go_simp
    with_reducible rfl
   rotate_left
   ·simp only [Act.put,Y14,Y15,Y16,i64_w]
    rfl
   refine take_ (i := 31) (N := some 69) (v := ?_) (a' := ?_) (sqB 42 3221225471) rfl rfl (take_ofW HT_.out HW_.out (by kernel_rfl)) (fun _ _ _ h => h) (Or.inl ⟨by rfl,?_⟩) hHeld ?_ ?_
   rotate_left
   ·rintro w' ⟨s0,s1,s2,s3,s4,s5,s6,s7,s8,s9,s10,s11,s12,s13,s14⟩
    go_simp
    with_reducible rfl
   rotate_left
   ·simp only [Act.put,Y14,Y15,Y16,i64_w]
    rfl
   refine take_ (i := 32) (N := some 70) (v := ?_) (a' := ?_) (sqB 42 7516192767) rfl rfl (take_ofW HT_.out HW_.out (by kernel_rfl)) (fun _ _ _ h => h) (Or.inl ⟨by rfl,?_⟩) hHeld ?_ ?_
   rotate_left
   ·rintro w' ⟨s0,s1,s2,s3,s4,s5,s6,s7,s8,s9,s10,s11,s12,s13,s14⟩
    go_simp
    with_reducible rfl
   rotate_left
   ·simp only [Act.put,Y14,Y15,Y16,i64_w]
    rfl
   refine one_ (i := 30) (N := some 68) (sqB 42 8589934591) rfl rfl (one_of HT_.out (by kernel_rfl)) (by decide) (fun K hK => ?_)
   refine goes_ Tryd.func32 (by kernel_rfl) rfl #[.agg #[.int .i64 a1_0,.string a1_1,.int .i64 a1_2,.int .i64 a1_3,.slice A1_4 l1_4.length c1_4],.agg #[.int .i64 t427,.string t428,.int .i64 t429,.int .i64 t430,.slice Ao35 t431.length co35]] (by rfl) rfl rfl (by (try simp only [List.map_toArray,List.map_cons,List.map_nil]);first | done | rfl | (simp only [List.length_drop,List.length_take];rfl)) ?_
   with_reducible refine (sexp_Same.calls a1_0 a1_1 a1_2 a1_3 _ _ l1_4 t427 t428 t429 t430 _ _ t431 t452 _ ?side1 ?side2 ?side3 ?side4 A27.out).mono ?_
   (case side1 => repeat (first | exact (Kd.C_below HR1_4.out HB.out) | (with_reducible refine Kd.C_alloc ?_ _) | (with_reducible refine Kd.C_drewN ?_ _) | (with_reducible refine Kd.C_drew ?_)))
   (case side2 => exact HC1_4.out)
   (case side3 => repeat (first | exact (Kd.R_reads' HO433.out).2.2 | (with_reducible refine Kd.C_alloc ?_ _) | (with_reducible refine Kd.C_drewN ?_ _) | (with_reducible refine Kd.C_drew ?_)))
   (case side4 => exact (Kd.R_reads' HO433.out).2.1)
   rintro e w49 ⟨rfl,hb⟩
   refine ⟨_,rfl,?_⟩
   have n0_ := Y0 (Kd.R_below (by (with_reducible repeat (first | apply Kd.R_alloc | apply Y6 | apply Y7));exact HO433.out) hb)
   have n1_ := Y0 (Kd.R_below (by (with_reducible repeat (first | apply Kd.R_alloc | apply Y6 | apply Y7));exact HO443.out) hb)
   have n2_ := Y0 (blk_below (g := gb424) (o := .cells #[.int .i64 a1_0,.string a1_1,.int .i64 a1_2,.int .i64 a1_3,.slice A1_4 l1_4.length c1_4] 39 (0,0)) (by (with_reducible repeat first | apply Y11 | apply Y13 | apply Y12);exact BK424.out) hb)
   have n3_ := Y0 (blk_below (g := gb436) (o := .cells #[.int .i64 t427,.string t428,.int .i64 t429,.int .i64 t430,.slice Ao35 t431.length co35] 39 (0,0)) (by (with_reducible repeat first | apply Y11 | apply Y13 | apply Y12);exact BK436.out) hb)
   have n4_ := Y0 (blk_below (g := gb446) (o := .cells #[.int .i64 t437,.string t438,.int .i64 t439,.int .i64 t440,.slice Ao41 t441.length co41] 39 (0,0)) (by (with_reducible repeat first | apply Y11 | apply Y13 | apply Y12);exact BK446.out) hb)
   have n5_ := Y0 (below_step (by repeat (with_reducible first | exact HB.out | apply Y3 | apply Y1 | apply Y2 | refine Y4 ?_ GE424.out | refine Y4 ?_ GE436.out | refine Y4 ?_ GE446.out)) hb)
   clear HO433
   clear HO443
   clear BK424
   clear BK436
   clear BK446
   clear HB
   have HO433 := n0_
   have HO443 := n1_
   have BK424 := n2_
   have BK436 := n3_
   have BK446 := n4_
   have HB := n5_
   clear n0_ n1_ n2_ n3_ n4_ n5_
   (try clear hb)
   (try clear hb2)
   (try clear hk)
   (try clear hi)
   refine hK.out _ _ ⟨(blk_cell BK436.out 0).trans rfl,(blk_cell BK436.out 1).trans rfl,(blk_cell BK436.out 2).trans rfl,(blk_cell BK436.out 3).trans rfl,(blk_cell BK436.out 4).trans rfl,(blk_cell BK446.out 0).trans rfl,(blk_cell BK446.out 1).trans rfl,(blk_cell BK446.out 2).trans rfl,(blk_cell BK446.out 3).trans rfl,(blk_cell BK446.out 4).trans rfl,(blk_cell BK424.out 0).trans rfl,(blk_cell BK424.out 1).trans rfl,(blk_cell BK424.out 2).trans rfl,(blk_cell BK424.out 3).trans rfl,(blk_cell BK424.out 4).trans rfl⟩ (fun hHeld => ?_)
   clear hK K
   refine norm_ (a' := ?_) ?_ ?_
   rotate_left
   ·show Act.put _ (some 68) _ = _
    simp only [Act.put,Y14,Y15,Y16,i64_w]
    rfl
   refine one_ (i := 33) (N := some 71) (sqB 42 17179869183) rfl rfl (one_of HT_.out (by kernel_rfl)) (by decide) (fun K hK => ?_)
   refine goes_ Tryd.func28 (by kernel_rfl) rfl #[.agg #[.int .i64 a1_0,.string a1_1,.int .i64 a1_2,.int .i64 a1_3,.slice A1_4 l1_4.length c1_4],.agg #[.int .i64 t427,.string t428,.int .i64 t429,.int .i64 t430,.slice Ao35 t431.length co35],.bool false] (by rfl) rfl rfl (by (try simp only [List.map_toArray,List.map_cons,List.map_nil]);first | done | rfl | (simp only [List.length_drop,List.length_take];rfl)) ?_
   with_reducible refine (truffleref14_Same.calls kj3 a1_0 a1_1 a1_2 a1_3 _ _ l1_4 t427 t428 t429 t430 _ _ t431 false t453 _ ?side1 ?side2 ?side3 ?side4 A28.out).mono ?_
   (case side1 => repeat (first | exact (Kd.C_below HR1_4.out HB.out) | (with_reducible refine Kd.C_alloc ?_ _) | (with_reducible refine Kd.C_drewN ?_ _) | (with_reducible refine Kd.C_drew ?_)))
   (case side2 => exact HC1_4.out)
   (case side3 => repeat (first | exact (Kd.R_reads' HO433.out).2.2 | (with_reducible refine Kd.C_alloc ?_ _) | (with_reducible refine Kd.C_drewN ?_ _) | (with_reducible refine Kd.C_drew ?_)))
   (case side4 => exact (Kd.R_reads' HO433.out).2.1)
   rintro e w50 ⟨rfl,hb⟩
   refine ⟨_,rfl,?_⟩
   have n0_ := Y0 (Kd.R_below (by (with_reducible repeat (first | apply Kd.R_alloc | apply Y6 | apply Y7));exact HO433.out) hb)
   have n1_ := Y0 (Kd.R_below (by (with_reducible repeat (first | apply Kd.R_alloc | apply Y6 | apply Y7));exact HO443.out) hb)
   have n2_ := Y0 (blk_below (g := gb424) (o := .cells #[.int .i64 a1_0,.string a1_1,.int .i64 a1_2,.int .i64 a1_3,.slice A1_4 l1_4.length c1_4] 39 (0,0)) (by (with_reducible repeat first | apply Y11 | apply Y13 | apply Y12);exact BK424.out) hb)
   have n3_ := Y0 (blk_below (g := gb436) (o := .cells #[.int .i64 t427,.string t428,.int .i64 t429,.int .i64 t430,.slice Ao35 t431.length co35] 39 (0,0)) (by (with_reducible repeat first | apply Y11 | apply Y13 | apply Y12);exact BK436.out) hb)
   have n4_ := Y0 (blk_below (g := gb446) (o := .cells #[.int .i64 t437,.string t438,.int .i64 t439,.int .i64 t440,.slice Ao41 t441.length co41] 39 (0,0)) (by (with_reducible repeat first | apply Y11 | apply Y13 | apply Y12);exact BK446.out) hb)
   have n5_ := Y0 (below_step (by repeat (with_reducible first | exact HB.out | apply Y3 | apply Y1 | apply Y2 | refine Y4 ?_ GE424.out | refine Y4 ?_ GE436.out | refine Y4 ?_ GE446.out)) hb)
   clear HO433
   clear HO443
   clear BK424
   clear BK436
   clear BK446
   clear HB
   have HO433 := n0_
   have HO443 := n1_
   have BK424 := n2_
   have BK436 := n3_
   have BK446 := n4_
   have HB := n5_
   clear n0_ n1_ n2_ n3_ n4_ n5_
   (try clear hb)
   (try clear hb2)
   (try clear hk)
   (try clear hi)
   refine hK.out _ _ ⟨(blk_cell BK436.out 0).trans rfl,(blk_cell BK436.out 1).trans rfl,(blk_cell BK436.out 2).trans rfl,(blk_cell BK436.out 3).trans rfl,(blk_cell BK436.out 4).trans rfl,(blk_cell BK446.out 0).trans rfl,(blk_cell BK446.out 1).trans rfl,(blk_cell BK446.out 2).trans rfl,(blk_cell BK446.out 3).trans rfl,(blk_cell BK446.out 4).trans rfl,(blk_cell BK424.out 0).trans rfl,(blk_cell BK424.out 1).trans rfl,(blk_cell BK424.out 2).trans rfl,(blk_cell BK424.out 3).trans rfl,(blk_cell BK424.out 4).trans rfl⟩ (fun hHeld => ?_)
   clear hK K
   refine norm_ (a' := ?_) ?_ ?_
   rotate_left
   ·show Act.put _ (some 71) _ = _
    simp only [Act.put,Y14,Y15,Y16,i64_w]
    rfl
   refine pure_ (i := 34) (N := some 72) (v := ?_) (a' := ?_) (sqB 42 34359738367) rfl rfl (any_of HT_.out (by kernel_rfl)) (fun _ _ _ h => h) (Or.inl ⟨by rfl,?_⟩) ?_ ?_
   rotate_left
   ·intro w'
    go_simp
    with_reducible rfl
   rotate_left
   ·simp only [Act.put,Y14,Y15,Y16,i64_w]
    rfl
   refine pure_ (i := 35) (N := some 73) (v := ?_) (a' := ?_) (sqB 42 68719476735) rfl rfl (any_of HT_.out (by kernel_rfl)) (fun _ _ _ h => h) (Or.inl ⟨by rfl,?_⟩) ?_ ?_
   rotate_left
   ·intro w'
    go_simp
    with_reducible rfl
   rotate_left
   ·simp only [Act.put,Y14,Y15,Y16,i64_w]
    rfl
   refine pure_ (i := 36) (N := some 74) (v := ?_) (a' := ?_) (sqB 42 137438953471) rfl rfl (any_of HT_.out (by kernel_rfl)) (fun _ _ _ h => h) (Or.inl ⟨by rfl,?_⟩) ?_ ?_
   rotate_left
   ·intro w'
    go_simp
    with_reducible rfl
   rotate_left
   ·simp only [Act.put,Y14,Y15,Y16,i64_w]
    rfl
   refine take_ (i := 37) (N := some 75) (v := ?_) (a' := ?_) (sqB 42 274877906943) rfl rfl (take_ofW HT_.out HW_.out (by kernel_rfl)) (fun _ _ _ h => h) (Or.inl ⟨by rfl,?_⟩) hHeld ?_ ?_
   rotate_left
   ·rintro w' ⟨s0,s1,s2,s3,s4,s5,s6,s7,s8,s9,s10,s11,s12,s13,s14⟩
    go_simp
    with_reducible rfl
   rotate_left
   ·simp only [Act.put,Y14,Y15,Y16,i64_w]
    rfl
   refine take_ (i := 38) (N := some 76) (v := ?_) (a' := ?_) (sqB 42 549755813887) rfl rfl (take_ofW HT_.out HW_.out (by kernel_rfl)) (fun _ _ _ h => h) (Or.inl ⟨by rfl,?_⟩) hHeld ?_ ?_
   rotate_left
   ·rintro w' ⟨s0,s1,s2,s3,s4,s5,s6,s7,s8,s9,s10,s11,s12,s13,s14⟩
    go_simp
    with_reducible rfl
   rotate_left
   ·simp only [Act.put,Y14,Y15,Y16,i64_w]
    rfl
   refine one_ (i := 39) (N := some 77) (sqB 42 1099511627775) rfl rfl (one_of HT_.out (by kernel_rfl)) (by decide) (fun K hK => ?_)
   refine goes_ Tryd.func32 (by kernel_rfl) rfl #[.agg #[.int .i64 a1_0,.string a1_1,.int .i64 a1_2,.int .i64 a1_3,.slice A1_4 l1_4.length c1_4],.agg #[.int .i64 a1_0,.string a1_1,.int .i64 a1_2,.int .i64 a1_3,.slice A1_4 l1_4.length c1_4]] (by rfl) rfl rfl (by (try simp only [List.map_toArray,List.map_cons,List.map_nil]);first | done | rfl | (simp only [List.length_drop,List.length_take];rfl)) ?_
   with_reducible refine (sexp_Same.calls a1_0 a1_1 a1_2 a1_3 _ _ l1_4 a1_0 a1_1 a1_2 a1_3 _ _ l1_4 t454 _ ?side1 ?side2 ?side3 ?side4 A30.out).mono ?_
   (case side1 => repeat (first | exact (Kd.C_below HR1_4.out HB.out) | (with_reducible refine Kd.C_alloc ?_ _) | (with_reducible refine Kd.C_drewN ?_ _) | (with_reducible refine Kd.C_drew ?_)))
   (case side2 => exact HC1_4.out)
   (case side3 => repeat (first | exact (Kd.C_below HR1_4.out HB.out) | (with_reducible refine Kd.C_alloc ?_ _) | (with_reducible refine Kd.C_drewN ?_ _) | (with_reducible refine Kd.C_drew ?_)))
   (case side4 => exact HC1_4.out)
   rintro e w51 ⟨rfl,hb⟩
   refine ⟨_,rfl,?_⟩
   have n0_ := Y0 (Kd.R_below (by (with_reducible repeat (first | apply Kd.R_alloc | apply Y6 | apply Y7));exact HO433.out) hb)
   have n1_ := Y0 (Kd.R_below (by (with_reducible repeat (first | apply Kd.R_alloc | apply Y6 | apply Y7));exact HO443.out) hb)
   have n2_ := Y0 (blk_below (g := gb424) (o := .cells #[.int .i64 a1_0,.string a1_1,.int .i64 a1_2,.int .i64 a1_3,.slice A1_4 l1_4.length c1_4] 39 (0,0)) (by (with_reducible repeat first | apply Y11 | apply Y13 | apply Y12);exact BK424.out) hb)
   have n3_ := Y0 (blk_below (g := gb436) (o := .cells #[.int .i64 t427,.string t428,.int .i64 t429,.int .i64 t430,.slice Ao35 t431.length co35] 39 (0,0)) (by (with_reducible repeat first | apply Y11 | apply Y13 | apply Y12);exact BK436.out) hb)
   have n4_ := Y0 (blk_below (g := gb446) (o := .cells #[.int .i64 t437,.string t438,.int .i64 t439,.int .i64 t440,.slice Ao41 t441.length co41] 39 (0,0)) (by (with_reducible repeat first | apply Y11 | apply Y13 | apply Y12);exact BK446.out) hb)
   have n5_ := Y0 (below_step (by repeat (with_reducible first | exact HB.out | apply Y3 | apply Y1 | apply Y2 | refine Y4 ?_ GE424.out | refine Y4 ?_ GE436.out | refine Y4 ?_ GE446.out)) hb)
   clear HO433
   clear HO443
   clear BK424
   clear BK436
   clear BK446
   clear HB
   have HO433 := n0_
   have HO443 := n1_
   have BK424 := n2_
   have BK436 := n3_
   have BK446 := n4_
   have HB := n5_
   clear n0_ n1_ n2_ n3_ n4_ n5_
   (try clear hb)
   (try clear hb2)
   (try clear hk)
   (try clear hi)
   refine hK.out _ _ ⟨(blk_cell BK436.out 0).trans rfl,(blk_cell BK436.out 1).trans rfl,(blk_cell BK436.out 2).trans rfl,(blk_cell BK436.out 3).trans rfl,(blk_cell BK436.out 4).trans rfl,(blk_cell BK446.out 0).trans rfl,(blk_cell BK446.out 1).trans rfl,(blk_cell BK446.out 2).trans rfl,(blk_cell BK446.out 3).trans rfl,(blk_cell BK446.out 4).trans rfl,(blk_cell BK424.out 0).trans rfl,(blk_cell BK424.out 1).trans rfl,(blk_cell BK424.out 2).trans rfl,(blk_cell BK424.out 3).trans rfl,(blk_cell BK424.out 4).trans rfl⟩ (fun hHeld => ?_)
   clear hK K
   refine norm_ (a' := ?_) ?_ ?_
   rotate_left
   ·show Act.put _ (some 77) _ = _
    simp only [Act.put,Y14,Y15,Y16,i64_w]
    rfl
   refine pure_ (i := 40) (N := some 78) (v := ?_) (a' := ?_) (sqB 42 2199023255551) rfl rfl (any_of HT_.out (by kernel_rfl)) (fun _ _ _ h => h) (Or.inl ⟨by rfl,?_⟩) ?_ ?_
   rotate_left
   ·intro w'
    go_simp
    with_reducible rfl
   rotate_left
   ·simp only [Act.put,Y14,Y15,Y16,i64_w]
    rfl
   refine pure_ (i := 41) (N := some 4) (v := ?_) (a' := ?_) (sqB 42 4398046511103) rfl rfl (any_of HT_.out (by kernel_rfl)) (fun _ _ _ h => h) (Or.inl ⟨by rfl,?_⟩) ?_ ?_
   rotate_left
   ·intro w'
    go_simp
    with_reducible rfl
   rotate_left
   ·simp only [Act.put,Y14,Y15,Y16,i64_w]
    rfl
   refine done_ (done_of HT_.out (by kernel_rfl)) ?_
   try go_wp2
   go_ret
   exact ⟨by first | rfl | (rw [hv_];done) | (simp [hv_];done) | (simp [← hv_];done) | (simp [] <;> rfl) | (simp [*] <;> rfl),by repeat (with_reducible first | exact HB.out | apply Y3 | apply Y1 | apply Y2 | refine Y4 ?_ GE424.out | refine Y4 ?_ GE436.out | refine Y4 ?_ GE446.out)⟩
open Go.Deep Go.ChangeShapes Go.WideShapes in
theorem list5 {α : Type} {l : List α} (h : l.length = 5) : ∃ a b c d e,l = [a,b,c,d,e] := by
 match l,h with
 | [a,b,c,d,e],_ => exact ⟨a,b,c,d,e,rfl⟩
instance : Inhabited NodeS := ⟨zN⟩
mutual
/-- No text of it is longer than a machine holds. -/
def txtB : NodeS → Prop
 | ⟨_,t,_,_,l⟩ => t.size ≤ 9223372036854775807 ∧ txtL l
def txtL : List NodeS → Prop
 | [] => True
 | x :: r => txtB x ∧ txtL r
end
theorem txtL_all (l : List NodeS) : txtL l ↔ ∀ x ∈ l,txtB x := by
 induction l with
 | nil => simp [txtL]
 | cons x r ih => rw [txtL,ih];simp
open Go.Deep Go.ChangeShapes Go.WideShapes in
theorem open_nodeK {H : Type} {enc : TypeId × Value → H} {w : World} {sp : Nat → Bool} {hd : Bool} : ∀ (fuel : Nat) (cs : List Value) (x : DataW H × List MemPlace),DataW.trod enc Tryd.prog w 0 sp hd fuel 39 cs = some x → ∃ N : NodeS,k39.K w N cs ∧ txtB N := by
 intro fuel
 induction fuel using Nat.strongRecOn with
 | _ fuel ih =>
 intro cs x h
 obtain ⟨xs,n,rfl,hx,hl,hlen,hf⟩ := DataW.trod_struct Tryd.underlying39 h
 have hc5 : Tryd.prog.cellsOf 39 = 5 := by kernel_rfl
 have hc3 : Tryd.prog.cellsOf 3 = 1 := by kernel_rfl
 have hc9 : Tryd.prog.cellsOf 9 = 1 := by kernel_rfl
 have hc2 : Tryd.prog.cellsOf 2 = 1 := by kernel_rfl
 have hc37 : Tryd.prog.cellsOf 37 = 1 := by kernel_rfl
 obtain ⟨v0,v1,v2,v3,v4,rfl⟩ := list5 (hl.trans hc5)
 obtain ⟨y0,y1,y2,y3,y4,rfl⟩ := list5 hlen
 have g0 : DataW.trod enc Tryd.prog w 0 sp hd n 3 [v0] = some y0 := by simpa [hc3] using hf 0 _ rfl
 have g1 : DataW.trod enc Tryd.prog w 0 sp hd n 9 [v1] = some y1 := by simpa [hc9] using hf 1 _ rfl
 have g2 : DataW.trod enc Tryd.prog w 0 sp hd n 2 [v2] = some y2 := by simpa [hc2] using hf 2 _ rfl
 have g3 : DataW.trod enc Tryd.prog w 0 sp hd n 3 [v3] = some y3 := by simpa [hc3] using hf 3 _ rfl
 have g4 : DataW.trod enc Tryd.prog w 0 sp hd n 37 [v4] = some y4 := by simpa [hc37] using hf 4 _ rfl
 obtain ⟨a0,e0,_⟩ := DataW.trod_int Tryd.underlying3 g0
 obtain ⟨a1,e1,_,hs1⟩ := DataW.trod_string Tryd.underlying9 g1
 obtain ⟨a2,e2,_⟩ := DataW.trod_int Tryd.underlying2 g2
 obtain ⟨a3,e3,_⟩ := DataW.trod_int Tryd.underlying3 g3
 simp only [List.cons.injEq,and_true] at e0 e1 e2 e3
 subst e0 e1 e2 e3
 have hs1 : a1.size ≤ 9223372036854775807 := Nat.le_trans hs1 (by decide)
 rcases DataW.trod_slice Tryd.underlying37 g4 with ⟨h0,_⟩ | ⟨a,len,cap,elems,rest,m,hm,h0,_,hb,hlc,hcm,hln,hel,_,_⟩
 ·simp only [List.cons.injEq,and_true] at h0
  subst h0
  exact ⟨⟨a0,a1,a2,a3,[]⟩,k39_mk w ⟨a0,a1,a2,a3,[]⟩ (Nat.le_refl _) (Kd.C_nil _ _),hs1,trivial⟩
 ·simp only [List.cons.injEq,and_true] at h0
  subst h0
  have each : ∀ i,i < len → ∃ N : NodeS,∃ c,txtB N ∧ c.length = 5 ∧ k39.K w N c ∧ ∀ j u,c[j]? = some u → w.cell? (a.add (i * 5 + j)) = some u := by
   intro i hi
   have h1 := hel i hi
   rw [List.getElem?_eq_getElem (show i < elems.length by omega)] at h1
   obtain ⟨c,h2,h3⟩ := Option.bind_eq_some_iff.1 h1
   rw [hc5] at h2
   obtain ⟨_,h4,h5⟩ := World.cells?_some h2
   obtain ⟨N,hN,ht⟩ := ih m (by omega) c _ h3
   refine ⟨N,c,ht,h4,hN,fun j u hu => ?_⟩
   have hj : j < 5 := by rw [← h4];exact (List.getElem?_eq_some_iff.1 hu).1
   rw [← Go.Deep.add_add,h5 j hj]
   exact hu
  obtain ⟨f,hF⟩ := choose_lt each
  have hL : ((List.range len).map f).length = len := by simp
  have hcm2 : cap ≤ 9223372036854775807 := Nat.le_trans hcm (by decide)
  have hK := k39_mk w ⟨a0,a1,a2,a3,(List.range len).map f⟩ (A4 := some a) (c4 := cap) (by rw [hL];exact hlc) ⟨rfl,by rw [hL];omega,fun _ => ⟨a,rfl,fun j p hj => by
   have hjl : j < len := by have := (List.getElem?_eq_some_iff.1 hj).1;rwa [hL] at this
   have hp : f j = p := by simpa [hjl] using hj
   rw [← hp]
   obtain ⟨c,_,hc⟩ := hF j hjl
   exact ⟨c,hc⟩⟩⟩
  simp only [hL] at hK
  refine ⟨_,hK,hs1,(txtL_all _).2 fun y hy => ?_⟩
  obtain ⟨j,hj,rfl⟩ := List.mem_map.1 hy
  obtain ⟨c,ht,_⟩ := hF j (List.mem_range.1 hj)
  exact ht
set_option maxRecDepth 100000 in
open Go.Deep Go.ChangeShapes Go.WideShapes in
theorem open_node {H : Type} {enc : TypeId × Value → H} {w : World} {sp : Nat → Bool} {hd : Bool} {r : Reach} {b0 : Nat} {v : Value} {d : DataW H} {p : List MemPlace} (hv : Value.okWide Tryd.prog w r b0 39 v) (h : DataW.Trod enc Tryd.prog w 0 sp hd 39 v d p) :
  ∃ (N : NodeS) (A : Option Addr) (c : Nat),v = .agg #[.int .i64 N.f0,.string N.f1,.int .i64 N.f2,.int .i64 N.f3,.slice A N.f4.length c] ∧ Kd.C k39 w A N.f4.length N.f4 ∧ N.f4.length ≤ c ∧ txtB N := by
 obtain ⟨cs,rfl,hsz⟩ := okWide_struct Tryd.underlying39 hv
 obtain ⟨fuel,hf⟩ := h
 obtain ⟨N,hN,ht⟩ := open_nodeK fuel _ _ hf
 obtain ⟨A,c,e,hc,hC⟩ := k39_open hN
 refine ⟨N,A,c,?_,hC,hc,ht⟩
 have e3 : (Value.agg cs).cells = cs := by simp [Value.cells]
 rw [e3] at e
 have e4 : cs = #[.int .i64 N.f0,.string N.f1,.int .i64 N.f2,.int .i64 N.f3,.slice A N.f4.length c] := Array.toList_inj.1 e
 rw [e4]
theorem byte_num (c : UInt8) (n : Nat) (h : n < 256) : ((c.toNat : Int) = (n : Int)) ↔ c = UInt8.ofNat n := by
 rw [← UInt8.toNat_inj,UInt8.toNat_ofNat',Nat.mod_eq_of_lt (by omega)]
 omega
theorem blank_blank (s : ByteArray) (k i : Nat) (hi : i < s.size) (hs : s.size ≤ 1000000000000) (hb : blankB s[i] = true) : truffleref06_blank.l0 (k + 2) s i = truffleref06_blank.l0 k s ((i + 1 : Nat) : Int) := by
 have e : (s[i].toNat : Int) = 32 ∨ (s[i].toNat : Int) = 9 ∨ (s[i].toNat : Int) = 10 ∨ (s[i].toNat : Int) = 13 := by
  unfold blankB at hb
  simp only [Bool.or_eq_true,beq_iff_eq] at hb
  rcases hb with ((h | h) | h) | h <;> rw [h] <;> simp
 simp only [truffleref06_blank.l0,truffleref06_blank.j1]
 rw [if_pos (by omega),if_pos (by omega),bt_nat s i hi,wrap_small _ (by omega) (by omega),show ((i : Int) + 1) = ((i + 1 : Nat) : Int) from by omega]
 rcases e with h | h | h | h <;> rw [h] <;> simp
theorem blank_ref (s : ByteArray) (hs : s.size ≤ 1000000000000) : ∀ d i : Nat,i ≤ s.size → s.size - i ≤ d →
  (∀ k,8 * d + 8 < k → truffleref06_blank.l0 k s i = some ((i + skipN false ((bl s).drop i) : Nat) : Int)) ∧
  (∀ k,8 * d + 4 < k → truffleref06_blank.l1 k s i = some ((i + skipN true ((bl s).drop i) : Nat) : Int)) := by
 intro d
 induction d with
 | zero =>
  intro i hi hd
  obtain rfl : i = s.size := by omega
  have e : (bl s).drop s.size = [] := List.drop_of_length_le (by rw [bl_length];omega)
  have h0 : ∀ k,truffleref06_blank.l0 (k + 1) s (s.size : Int) = some ((s.size : Nat) : Int) := by
   intro k
   simp only [truffleref06_blank.l0]
   rw [if_neg (by omega)]
  refine ⟨fun k hk => ?_,fun k hk => ?_⟩
  ·obtain ⟨k,rfl⟩ : ∃ m,k = m + 1 := ⟨k - 1,by omega⟩
   rw [h0,e];simp [skipN]
  ·obtain ⟨k,rfl⟩ : ∃ m,k = m + 1 + 1 := ⟨k - 2,by omega⟩
   simp only [truffleref06_blank.l1]
   rw [if_neg (by omega),h0,e];simp [skipN]
 | succ d ih =>
  intro i hi hd
  by_cases hlt : i < s.size
  ·obtain ⟨ih0,ih1⟩ := ih (i + 1) (by omega) (by omega)
   have hc := drop_bl s i hlt
   have hw : wrap64 ((i : Int) + 1) = ((i + 1 : Nat) : Int) := by rw [wrap_small _ (by omega) (by omega)];omega
   have hB : ∀ k,8 * d + 10 < k → blankB s[i] = true → truffleref06_blank.l0 k s i = some ((i + skipN false ((bl s).drop i) : Nat) : Int) := by
    intro k hk hb
    obtain ⟨k,rfl⟩ : ∃ m,k = m + 2 := ⟨k - 2,by omega⟩
    rw [blank_blank s k i hlt hs hb,ih0 k (by omega),hc,skipN_f,if_pos hb]
    congr 2;omega
   have h1 : ∀ k,8 * (d + 1) + 4 < k → truffleref06_blank.l1 k s i = some ((i + skipN true ((bl s).drop i) : Nat) : Int) := by
    intro k hk
    obtain ⟨k,rfl⟩ : ∃ m,k = m + 1 := ⟨k - 1,by omega⟩
    simp only [truffleref06_blank.l1]
    rw [if_pos (by omega),if_pos (by omega),bt_nat s i hlt]
    by_cases h10 : s[i] = 10
    ·rw [if_pos (by rw [h10];rfl),hB k (by omega) (by rw [h10];rfl),hc,h10]
     rw [skipN_f,skipN_t,if_pos (by rfl)];rfl
    ·rw [if_neg (by intro e;exact h10 ((byte_num s[i] 10 (by omega)).mp e)),hw,ih1 k (by omega),hc,skipN_t,show (s[i] != 10) = true from bne_iff_ne.mpr h10]
     congr 2;omega
   refine ⟨fun k hk => ?_,h1⟩
   by_cases hb : blankB s[i] = true
   ·exact hB k (by omega) hb
   ·obtain ⟨k,rfl⟩ : ∃ m,k = m + 3 := ⟨k - 3,by omega⟩
    have n32 : ¬ (s[i].toNat : Int) = 32 := fun e => hb (by rw [(byte_num s[i] 32 (by omega)).mp e];rfl)
    have n9 : ¬ (s[i].toNat : Int) = 9 := fun e => hb (by rw [(byte_num s[i] 9 (by omega)).mp e];rfl)
    have n10 : ¬ (s[i].toNat : Int) = 10 := fun e => hb (by rw [(byte_num s[i] 10 (by omega)).mp e];rfl)
    have n13 : ¬ (s[i].toNat : Int) = 13 := fun e => hb (by rw [(byte_num s[i] 13 (by omega)).mp e];rfl)
    simp only [truffleref06_blank.l0,truffleref06_blank.j1,truffleref06_blank.j2]
    rw [if_pos (by omega),if_pos (by omega),bt_nat s i hlt,if_neg n32,if_neg n9,if_neg n10,beq_eq_false_iff_ne.mpr n13,if_neg (by decide),hw,hc,skipN_f,if_neg hb]
    by_cases hlt2 : i + 1 < s.size
    ·rw [if_neg (by omega)]
     by_cases h47 : s[i] = 47
     ·rw [if_pos (by rw [h47];rfl),if_pos (by omega),if_pos (by omega),bt_nat s (i + 1) hlt2,drop_bl s (i + 1) hlt2]
      by_cases g47 : s[i + 1] = 47
      ·have hP : s[i] = 47 ∧ (s[i + 1] :: List.drop (i + 1 + 1) (bl s)).head? = some 47 := ⟨h47,by rw [g47];rfl⟩
       have hx : (((s[i + 1].toNat : Nat) : Int) != 47) = false := by rw [g47];rfl
       rw [hx,if_neg (by decide),h1 k (by omega),if_pos hP,hc,skipN_t,h47,drop_bl s (i + 1) hlt2]
       rfl
      ·have hP : ¬ (s[i] = 47 ∧ (s[i + 1] :: List.drop (i + 1 + 1) (bl s)).head? = some 47) := by rintro ⟨_,e⟩;simp only [List.head?_cons,Option.some.injEq] at e;exact g47 e
       have hx : (((s[i + 1].toNat : Nat) : Int) != 47) = true := by rw [bne_iff_ne];intro e;exact g47 ((byte_num _ 47 (by omega)).mp e)
       rw [hx,if_pos rfl,if_neg hP];rfl
     ·have hP : ∀ P : Prop,¬ (s[i] = 47 ∧ P) := fun P h => h47 h.1
      rw [if_neg (show ¬ (s[i].toNat : Int) = 47 from fun e => h47 ((byte_num _ 47 (by omega)).mp e)),if_pos trivial,if_neg (hP _)];rfl
    ·rw [if_pos (by omega),if_pos trivial]
     have : (bl s).drop (i + 1) = [] := List.drop_of_length_le (by rw [bl_length];omega)
     rw [this,if_neg (by simp)];rfl
  ·obtain ⟨ih0,ih1⟩ := ih i hi (by omega)
   exact ⟨fun k hk => ih0 k (by omega),fun k hk => ih1 k (by omega)⟩
theorem letter_ref (c : UInt8) : truffleref06_letter.f (c.toNat : Int) = some (decide (ofK (c.toNat : Int) = 0)) := by
 have e : (ofK (c.toNat : Int) = 0) ↔ (97 ≤ (c.toNat : Int) ∧ (c.toNat : Int) ≤ 122) ∨ (65 ≤ (c.toNat : Int) ∧ (c.toNat : Int) ≤ 90) ∨ (c.toNat : Int) = 95 := by
  unfold ofK
  constructor
  ·intro h
   split at h
   ·assumption
   ·split at h
    ·omega
    ·split at h
     ·omega
     ·split at h <;> omega
  ·intro h;rw [if_pos h]
 simp only [e]
 unfold truffleref06_letter.f
 generalize (c.toNat : Int) = x
 repeat' split
 all_goals (congr 1;symm;first | (rw [decide_eq_true_eq];omega) | (rw [Bool.eq_iff_iff,decide_eq_true_eq,beq_iff_eq];omega))
theorem digit_ref (c : UInt8) : truffleref06_digit.f (c.toNat : Int) = some (numU c) := by
 have e : numU c = decide (48 ≤ (c.toNat : Int) ∧ (c.toNat : Int) ≤ 57) := by
  unfold numU numB
  rw [Bool.eq_iff_iff,decide_eq_true_eq,Bool.and_eq_true,beq_iff_eq,bne_iff_ne]
  unfold ofK
  constructor
  ·rintro ⟨h,h2⟩
   split at h
   ·omega
   ·split at h
    ·omega
    ·split at h
     ·omega
     ·split at h <;> omega
  ·intro h;rw [if_neg (by omega),if_pos (by omega)];exact ⟨rfl,by omega⟩
 rw [e]
 unfold truffleref06_digit.f
 split
 ·congr 1
  rw [Bool.eq_iff_iff,decide_eq_true_eq,decide_eq_true_eq];omega
 ·congr 1;symm;rw [decide_eq_false_iff_not];omega
theorem signed_loop (c : UInt8) : ∀ d k i : Nat,i ≤ 12 → 12 - i ≤ d → d < k → truffleref06_signed.l0 k (c.toNat : Int) ⟨#[123,125,40,41,91,93,60,62,61,59,44,46]⟩ i = some (decide (c ∈ signsL.drop i)) := by
 have hz : (⟨#[123,125,40,41,91,93,60,62,61,59,44,46]⟩ : ByteArray).size = 12 := rfl
 have hb : bl (⟨#[123,125,40,41,91,93,60,62,61,59,44,46]⟩ : ByteArray) = signsL := rfl
 generalize (⟨#[123,125,40,41,91,93,60,62,61,59,44,46]⟩ : ByteArray) = x at hz hb
 intro d
 induction d with
 | zero =>
  intro k i hi hd hk
  obtain ⟨k,rfl⟩ : ∃ m,k = m + 1 := ⟨k - 1,by omega⟩
  simp only [truffleref06_signed.l0]
  rw [if_neg (by omega),← hb,List.drop_of_length_le (by rw [bl_length];omega)]
  simp
 | succ d ih =>
  intro k i hi hd hk
  obtain ⟨k,rfl⟩ : ∃ m,k = m + 1 := ⟨k - 1,by omega⟩
  simp only [truffleref06_signed.l0]
  by_cases hlt : i < x.size
  ·rw [if_pos (by omega),if_pos (by omega),bt_nat x i hlt,← hb,drop_bl x i hlt]
   by_cases he : x[i] = c
   ·rw [if_pos (by rw [he])];simp [he]
   ·rw [if_neg (by intro e;exact he (byte_eq _ _ (by omega))),wrap_small _ (by omega) (by omega),show ((i : Int) + 1) = ((i + 1 : Nat) : Int) from by omega,ih k (i + 1) (by omega) (by omega) (by omega),hb]
    have he2 : ¬ c = x[i] := fun e => he e.symm
    simp [he2]
  ·rw [if_neg (by omega),← hb,List.drop_of_length_le (by rw [bl_length];omega)]
   simp
theorem signed_ref (c : UInt8) (k : Nat) (hk : 12 < k) : truffleref06_signed.f k (c.toNat : Int) = some (decide (0 ≤ Lib.indexByte signsL c)) := by
 unfold truffleref06_signed.f
 have := signed_loop c 12 k 0 (by omega) (by omega) hk
 rw [List.drop_zero] at this
 rw [show ((0 : Nat) : Int) = 0 from rfl] at this
 rw [this]
 simp only [index_ge]
theorem dig_ex : ∀ r : Fin 10,bl ((⟨#[48,49,50,51,52,53,54,55,56,57]⟩ : ByteArray).extract r.val (r.val + 1)) = [UInt8.ofNat (48 + r.val)] := by decide
theorem dec_len (k : Nat) : ∀ u,u < 10 ^ (k + 1) → (Lib.decDigits u).length ≤ k + 1 := by
 induction k with
 | zero => intro u hu;rw [decDigits_small u (by simpa using hu)];simp
 | succ k ih =>
  intro u hu
  by_cases h : u < 10
  ·rw [decDigits_small u h];simp
  ·rw [decDigits_big u h,List.length_append]
   have := ih (u / 10) (by rw [Nat.pow_succ] at hu;omega)
   simp only [List.length_cons,List.length_nil];omega
theorem digits_nat (k : Nat) : ∀ u : Nat,u < 10 ^ (k + 1) → u ≤ 9223372036854775807 → truffleref06_Digits.f (k + 1) (u : Int) = some ⟨(Lib.decDigits u).toArray⟩ := by
 induction k with
 | zero =>
  intro u hu hz
  have hu : u < 10 := by simpa using hu
  have hm : Int.tmod (u : Int) 10 = ((u % 10 : Nat) : Int) := by rw [Int.tmod_eq_emod_of_nonneg (by omega)];omega
  simp only [truffleref06_Digits.f]
  rw [if_neg (by omega),hm,wrap_small _ (by omega) (by omega),if_pos (by omega),if_pos (by omega),if_pos (by omega),if_pos (by omega),show (((u % 10 : Nat) : Int) + 1).toNat = u % 10 + 1 from by omega,Int.toNat_natCast]
  have := dig_ex ⟨u % 10,Nat.mod_lt _ (by omega)⟩
  congr 1
  apply eq_of_bl
  rw [this,decDigits_small u hu]
  show [UInt8.ofNat (48 + u % 10)] = [UInt8.ofNat (48 + u)]
  rw [Nat.mod_eq_of_lt hu]
 | succ k ih =>
  intro u hu hz
  have hm : Int.tmod (u : Int) 10 = ((u % 10 : Nat) : Int) := by rw [Int.tmod_eq_emod_of_nonneg (by omega)];omega
  have hq : Int.tdiv (u : Int) 10 = ((u / 10 : Nat) : Int) := by rw [Int.tdiv_eq_ediv_of_nonneg (by omega)];omega
  rw [truffleref06_Digits.f]
  rw [if_neg (by omega),hm,hq,wrap_small (((u % 10 : Nat) : Int) + 1) (by omega) (by omega),if_pos (by omega),if_pos (by omega),if_pos (by omega),show (((u % 10 : Nat) : Int) + 1).toNat = u % 10 + 1 from by omega,Int.toNat_natCast]
  have hd := dig_ex ⟨u % 10,Nat.mod_lt _ (by omega)⟩
  simp only at hd
  generalize (⟨#[48,49,50,51,52,53,54,55,56,57]⟩ : ByteArray).extract (u % 10) (u % 10 + 1) = x at hd ⊢
  by_cases h : u < 10
  ·rw [if_pos (by omega)]
   congr 1
   apply eq_of_bl
   rw [hd,decDigits_small u h,Nat.mod_eq_of_lt h]
  ·have hw : wrap64 ((u / 10 : Nat) : Int) = ((u / 10 : Nat) : Int) := by unfold wrap64;omega
   rw [if_neg (by omega),hw,ih (u / 10) (by rw [Nat.pow_succ] at hu;omega) (by omega)]
   have hl := Lib.itoa_length_le ((u / 10 : Nat) : Int) (by omega) (by omega)
   rw [Lib.itoa_nonneg] at hl
   have z1 : (⟨(Lib.decDigits (u / 10)).toArray⟩ : ByteArray).size = (Lib.decDigits (u / 10)).length := by rw [← bl_length,blMk (Lib.decDigits (u / 10))]
   have z2 : x.size = 1 := by rw [← bl_length,hd];rfl
   simp only [Option.bind_some]
   rw [if_pos (by omega)]
   congr 1
   apply eq_of_bl
   rw [bl_app,hd,blMk (Lib.decDigits (u / 10)),blMk (Lib.decDigits u),decDigits_big u h]
theorem digits_ref (n : Int) (h0 : -9223372036854775808 ≤ n) (h1 : n ≤ 9223372036854775807) (K : Nat) (hK : 30 < K) : truffleref06_Digits.f K n = some ⟨(Lib.itoa n).toArray⟩ := by
 have hpow : ∀ k,18 ≤ k → (9223372036854775807 : Nat) < 10 ^ (k + 1) := by
  intro k hk
  have : (10 : Nat) ^ 19 ≤ 10 ^ (k + 1) := Nat.pow_le_pow_right (by omega) (by omega)
  omega
 by_cases hn : n < 0
 ·obtain ⟨K,rfl⟩ : ∃ m,K = m + 1 + 1 := ⟨K - 2,by omega⟩
  rw [truffleref06_Digits.f,if_pos hn]
  by_cases hmin : n = -9223372036854775808
  ·rw [if_pos hmin,hmin]
   congr 1
   apply eq_of_bl
   rw [show ((-9223372036854775808 : Int)) = -((9223372036854775808 : Nat) : Int) from rfl,Lib.itoa_neg 9223372036854775808 (by omega)]
   have : Lib.decDigits 9223372036854775808 = [57,50,50,51,51,55,50,48,51,54,56,53,52,55,55,53,56,48,56] := by
    decide +kernel
   rw [this]
  ·obtain ⟨u,hu⟩ : ∃ u : Nat,n = -(u : Int) := ⟨n.natAbs,by omega⟩
   subst hu
   have hw : wrap64 (- -(u : Int)) = (u : Int) := by unfold wrap64;omega
   rw [if_neg hmin,hw,digits_nat K u (by have := hpow K (by omega);omega) (by omega)]
   have hl := Lib.itoa_length_le (u : Int) (by omega) (by omega)
   rw [Lib.itoa_nonneg] at hl
   have z1 : (⟨(Lib.decDigits u).toArray⟩ : ByteArray).size = (Lib.decDigits u).length := by rw [← bl_length,blMk (Lib.decDigits u)]
   simp only [Option.bind_some]
   rw [if_pos (by omega)]
   congr 1
   apply eq_of_bl
   rw [bl_app,blMk (Lib.decDigits u),blMk (Lib.itoa _),Lib.itoa_neg u (by omega)];rfl
 ·obtain ⟨u,hu⟩ : ∃ u : Nat,n = (u : Int) := ⟨n.toNat,by omega⟩
  subst hu
  obtain ⟨K,rfl⟩ : ∃ m,K = m + 1 := ⟨K - 1,by omega⟩
  rw [digits_nat K u (by have := hpow K (by omega);omega) (by omega),Lib.itoa_nonneg]
def valU (acc : Nat) (l : List UInt8) : Nat := l.foldl (fun a c => 10 * a + (c.toNat - 48)) acc
theorem valU_ge (l : List UInt8) : ∀ acc,acc ≤ valU acc l := by
 induction l with
 | nil => intro acc;exact Nat.le_refl _
 | cons c r ih => intro acc;have := ih (10 * acc + (c.toNat - 48));simp only [valU,List.foldl_cons] at *;omega
theorem valU_snoc (acc : Nat) (l : List UInt8) (c : UInt8) : valU acc (l ++ [c]) = 10 * valU acc l + (c.toNat - 48) := by
 simp [valU,List.foldl_append]
theorem valU_dec (u : Nat) : valU 0 (Lib.decDigits u) = u := by
 induction u using Nat.strongRecOn with
 | _ u ih =>
  by_cases h : u < 10
  ·rw [decDigits_small u h]
   simp only [valU,List.foldl_cons,List.foldl_nil,digit_byte u h];omega
  ·have hm : u % 10 < 10 := Nat.mod_lt _ (by omega)
   rw [decDigits_big u h,valU_snoc,ih (u / 10) (by omega),digit_byte _ hm];omega
theorem num_l0_any (t : ByteArray) (x5 : Int) (hs : t.size ≤ 1000000) : ∀ d k i : Nat,∀ x4 : Int,i ≤ t.size → t.size - i ≤ d → d + 60 < k → ∃ v ok,truffleref06_number.l0 k t x4 x5 i = some (v,ok) ∧ (ok = true → numOk (bl t) = true) := by
 intro d
 induction d with
 | zero =>
  intro k i x4 hi hd hk
  obtain ⟨k,rfl⟩ : ∃ m,k = m + 1 + 1 := ⟨k - 2,by omega⟩
  have hj : ∀ b,∃ v ok,truffleref06_number.j4 (k + 1) t x4 x5 b = some (v,ok) ∧ (ok = true → numOk (bl t) = true) := by
   intro b
   cases b
   ·simp only [truffleref06_number.j4]
    rw [if_neg (by decide)]
    have r1 : ∀ z,-9223372036854775808 ≤ wrap64 z ∧ wrap64 z ≤ 9223372036854775807 := by intro z;unfold wrap64;omega
    have r2 : ∀ z,((⟨(Lib.itoa (wrap64 z)).toArray⟩ : ByteArray).toList == t.toList) = true → numOk (bl t) = true := by
     intro z e
     rw [beq_iff_eq,toList_bl,toList_bl,blMk (Lib.itoa (wrap64 z))] at e
     rw [← e];exact numOk_itoa _ (r1 z).1 (r1 z).2
    split
    ·rw [digits_ref _ (r1 _).1 (r1 _).2 k (by omega)]
     exact ⟨_,_,rfl,r2 _⟩
    ·rw [digits_ref _ (r1 _).1 (r1 _).2 k (by omega)]
     exact ⟨_,_,rfl,r2 _⟩
   ·simp only [truffleref06_number.j4,if_true]
    exact ⟨0,false,rfl,fun h => (by cases h)⟩
  simp only [truffleref06_number.l0]
  rw [if_neg (by omega)]
  split
  ·exact hj true
  ·split
   ·exact hj _
   ·exact hj false
 | succ d ih =>
  intro k i x4 hi hd hk
  by_cases hlt : i < t.size
  ·obtain ⟨k,rfl⟩ : ∃ m,k = m + 1 := ⟨k - 1,by omega⟩
   simp only [truffleref06_number.l0]
   rw [if_pos (by omega),if_pos (by omega),wrap_small _ (by omega) (by omega)]
   exact ih k (i + 1) _ (by omega) (by omega) (by omega)
  ·exact ih k i x4 hi (by omega) (by omega)
theorem num_l0_val (t : ByteArray) (x5 : Int) (hs : t.size ≤ 1000000) : ∀ (l : List UInt8) (acc i k : Nat),i ≤ t.size → (bl t).drop i = l → (∀ c ∈ l,48 ≤ c.toNat ∧ c.toNat ≤ 57) → valU acc l ≤ 9223372036854775808 → l.length + 60 < k →
  ∃ k',60 < k' ∧ truffleref06_number.l0 k t acc x5 i = truffleref06_number.l0 k' t (valU acc l : Nat) x5 t.size := by
 intro l
 induction l with
 | nil =>
  intro acc i k hi hl hd hv hk
  have := congrArg List.length hl
  rw [List.length_drop,bl_length,List.length_nil] at this
  obtain rfl : i = t.size := by omega
  exact ⟨k,by simpa using hk,rfl⟩
 | cons c r ih =>
  intro acc i k hi hl hd hv hk
  obtain ⟨k,rfl⟩ : ∃ m,k = m + 1 := ⟨k - 1,by omega⟩
  have hz := congrArg List.length hl
  rw [List.length_drop,bl_length,List.length_cons] at hz
  have hlt : i < t.size := by omega
  rw [drop_bl t i hlt] at hl
  simp only [List.cons.injEq] at hl
  obtain ⟨hc,hr⟩ := hl
  have hdc := hd c (by simp)
  have hge := valU_ge r (10 * acc + (c.toNat - 48))
  have hv2 : valU acc (c :: r) = valU (10 * acc + (c.toNat - 48)) r := rfl
  rw [hv2] at hv ⊢
  simp only [truffleref06_number.l0]
  rw [if_pos (by omega),if_pos (by omega),bt_nat t i hlt,hc,wrap_small _ (by omega) (by omega)]
  have e : IntKind.u64.wrap (IntKind.u64.wrap (10 * (acc : Int)) + ((c.toNat : Int) - 48) % 256) = ((10 * acc + (c.toNat - 48) : Nat) : Int) := by
   have w : ∀ z : Int,0 ≤ z → z ≤ 9223372036854775808 → IntKind.u64.wrap z = z := by
    intro z z0 z1
    simp only [IntKind.wrap,IntKind.signed,IntKind.bits]
    first | omega | (simp;omega)
   rw [w (10 * (acc : Int)) (by omega) (by omega),w _ (by omega) (by omega)]
   omega
  rw [e]
  exact ih _ (i + 1) k (by omega) hr (fun x hx => hd x (by simp [hx])) hv (by simp only [List.length_cons] at hk;omega)
theorem num_neg (l : List UInt8) (h : numOk l = true) : ∃ v : Int,numV l = v ∧ l = Lib.itoa v ∧ -9223372036854775808 ≤ v ∧ v ≤ 9223372036854775807 := by
 unfold numOk at h
 unfold numV
 cases hp : Lib.parseIntB 64 l with
 | ok v =>
  rw [hp] at h
  have h2 := of_decide_eq_true h
  obtain ⟨a,b⟩ := parse_range l v hp
  exact ⟨v,rfl,h2.symm,a,b⟩
 | _ => rw [hp] at h;cases h
theorem number_ref (t : ByteArray) (hs : t.size ≤ 1000000) (K : Nat) (hK : t.size + 100 < K) : ∃ v ok,truffleref06_number.f K t = some (v,ok) ∧ (numOk (bl t) = true → ok = true ∧ v = numV (bl t)) ∧ (ok = true → numOk (bl t) = true) := by
 obtain ⟨K,rfl⟩ : ∃ m,K = m + 3 := ⟨K - 3,by omega⟩
 have hj0 : ∀ b,truffleref06_number.j0 (K + 3) t 0 0 b = truffleref06_number.j1 (K + 2) t 0 (if b = true then 1 else 0) := by
  intro b
  simp only [truffleref06_number.j0]
  cases b
  ·rw [if_neg (by decide),if_neg (by decide)]
  ·rw [if_pos rfl,if_pos rfl]
 have hf : truffleref06_number.f (K + 3) t = truffleref06_number.j1 (K + 2) t 0 (if (bl t).head? = some 45 then 1 else 0) := by
  unfold truffleref06_number.f
  by_cases hz : 0 < t.size
  ·rw [if_pos (by omega),if_pos (by omega),hj0]
   have h0 := bt_nat t 0 hz
   have hd := drop_bl t 0 hz
   rw [List.drop_zero] at hd
   rw [show bt t 0 = (t[0].toNat : Int) from h0,hd]
   by_cases h45 : t[0] = 45
   ·rw [h45,if_pos (by decide),if_pos (by rw [List.head?_cons])]
   ·rw [if_neg (by rw [beq_iff_eq];exact fun e => h45 ((byte_num _ 45 (by omega)).mp e)),if_neg (by simp only [List.head?_cons,Option.some.injEq];exact h45)]
  ·have : bl t = [] := List.length_eq_zero_iff.mp (by rw [bl_length];omega)
   rw [if_neg (by omega),hj0,this,if_neg (by decide),if_neg (by simp)]
 rw [hf]
 by_cases hok : numOk (bl t) = true
 ·obtain ⟨v,hv,hl,h0,h1⟩ := num_neg _ hok
  have hsz : t.size = (Lib.itoa v).length := by rw [← bl_length,hl]
  have htl : ((⟨(Lib.itoa v).toArray⟩ : ByteArray).toList == t.toList) = true := by
   rw [beq_iff_eq,toList_bl,toList_bl,blMk (Lib.itoa v),hl]
  refine ⟨v,true,?_,fun _ => ⟨rfl,hv.symm⟩,fun _ => hok⟩
  have p19 : (9223372036854775808 : Nat) < 10 ^ (18 + 1) := by decide
  by_cases hn : v < 0
  ·obtain ⟨u,hu⟩ : ∃ u : Nat,v = -(u : Int) := ⟨v.natAbs,by omega⟩
   have hi : Lib.itoa v = 45 :: Lib.decDigits u := by rw [hu,Lib.itoa_neg u (by omega)]
   have hlen := dec_len 18 u (by omega)
   obtain ⟨c,r,hc,hc1,hc2⟩ := decDigits_head u
   have hpos : 1 ≤ (Lib.decDigits u).length := by rw [hc];simp
   rw [hi,List.length_cons] at hsz
   have hdrop : (bl t).drop 1 = Lib.decDigits u := by rw [hl,hi];rfl
   rw [hl,hi,List.head?_cons,if_pos rfl]
   simp only [truffleref06_number.j1,truffleref06_number.j2]
   rw [if_neg (by omega),wrap_small _ (by omega) (by omega),decide_eq_false (by omega),if_neg (by decide)]
   obtain ⟨k',hk',e⟩ := num_l0_val t 1 hs (Lib.decDigits u) 0 1 K (by omega) hdrop (decDigits_digits u) (by rw [valU_dec];omega) (by omega)
   rw [valU_dec] at e
   rw [show ((1 : Nat) : Int) = 1 from rfl,show ((0 : Nat) : Int) = 0 from rfl] at e
   rw [e]
   obtain ⟨k',rfl⟩ : ∃ m,k' = m + 1 + 1 := ⟨k' - 2,by omega⟩
   have hwu : wrap64 (-(wrap64 (u : Int))) = v := by unfold wrap64;omega
   have hj4 : truffleref06_number.j4 (k' + 1) t (u : Int) 1 false = some (v,true) := by
    simp only [truffleref06_number.j4]
    rw [if_neg (by decide),if_pos trivial,hwu,digits_ref v h0 h1 k' (by omega)]
    simp only [Option.bind_some]
    rw [htl]
   simp only [truffleref06_number.l0]
   rw [if_neg (by omega),if_neg (by omega),show ((1 : Int) == 0) = false from rfl,hj4]
   split <;> rfl
  ·obtain ⟨u,hu⟩ : ∃ u : Nat,v = (u : Int) := ⟨v.toNat,by omega⟩
   have hi : Lib.itoa v = Lib.decDigits u := by rw [hu,Lib.itoa_nonneg u]
   have hlen := dec_len 18 u (by omega)
   obtain ⟨c,r,hc,hc1,hc2⟩ := decDigits_head u
   have hpos : 1 ≤ (Lib.decDigits u).length := by rw [hc];simp
   rw [hi] at hsz
   have hh : ¬ (bl t).head? = some 45 := by
    rw [hl,hi,hc,List.head?_cons,Option.some.injEq]
    rintro rfl
    revert hc1;decide
   rw [if_neg hh]
   simp only [truffleref06_number.j1,truffleref06_number.j2]
   rw [if_neg (by omega),wrap_small _ (by omega) (by omega),decide_eq_false (by omega),if_neg (by decide)]
   obtain ⟨k',hk',e⟩ := num_l0_val t 0 hs (Lib.decDigits u) 0 0 K (by omega) (by rw [List.drop_zero,hl,hi]) (decDigits_digits u) (by rw [valU_dec];omega) (by omega)
   rw [valU_dec] at e
   rw [show ((0 : Nat) : Int) = 0 from rfl] at e
   rw [e]
   obtain ⟨k',rfl⟩ : ∃ m,k' = m + 1 + 1 := ⟨k' - 2,by omega⟩
   have hwu : wrap64 (u : Int) = v := by unfold wrap64;omega
   have hj4 : truffleref06_number.j4 (k' + 1) t (u : Int) 0 false = some (v,true) := by
    simp only [truffleref06_number.j4]
    rw [if_neg (by decide),if_neg (by decide),hwu,digits_ref v h0 h1 k' (by omega)]
    simp only [Option.bind_some]
    rw [htl]
   simp only [truffleref06_number.l0]
   rw [if_neg (by omega),if_neg (by omega),if_neg (by omega),hj4]
 ·suffices h : ∃ v ok,truffleref06_number.j1 (K + 2) t 0 (if (bl t).head? = some 45 then 1 else 0) = some (v,ok) ∧ (ok = true → numOk (bl t) = true) by
   obtain ⟨v,ok,h1,h2⟩ := h
   exact ⟨v,ok,h1,fun h => absurd h hok,h2⟩
  obtain ⟨f,hf1,hf2⟩ : ∃ f : Nat,(if (bl t).head? = some 45 then (1 : Int) else 0) = (f : Int) ∧ f ≤ t.size := by
   split
   ·rename_i h
    refine ⟨1,rfl,?_⟩
    rw [← bl_length]
    cases hb : bl t with
    | nil => rw [hb] at h;cases h
    | cons c r => simp
   ·exact ⟨0,rfl,by omega⟩
  rw [hf1]
  have hj2 : ∀ b,∃ v ok,truffleref06_number.j2 (K + 1) t 0 f b = some (v,ok) ∧ (ok = true → numOk (bl t) = true) := by
   intro b
   simp only [truffleref06_number.j2]
   cases b
   ·rw [if_neg (by decide)]
    exact num_l0_any t f hs t.size K f 0 hf2 (by omega) (by omega)
   ·rw [if_pos rfl];exact ⟨0,false,rfl,fun h => (by cases h)⟩
  simp only [truffleref06_number.j1]
  split
  ·exact hj2 true
  ·exact hj2 _
theorem hex_ref0 : ∀ c : Fin 256,truffleref06_hex.f (c.val : Int) = some (hexI (UInt8.ofNat c.val)) := by decide +kernel
theorem hex_ref (c : UInt8) : truffleref06_hex.f (c.toNat : Int) = some (hexI c) := by
 have := hex_ref0 ⟨c.toNat,c.toNat_lt⟩
 simpa using this
theorem text_j4 (s : ByteArray) (k i : Nat) (acc : List UInt8) (d : UInt8) (ha : acc.length ≤ 1000000) (hi : i ≤ 1000000) : truffleref06_text.j4 (k + 1) s (numsOf acc) i (d.toNat : Int) false = truffleref06_text.l0 k s (numsOf (acc ++ [if d = 110 then 10 else d])) ((i + 2 : Nat) : Int) := by
 have hal : (numsOf acc).length < 140737488355328 := by unfold numsOf;rw [List.length_map];omega
 simp only [truffleref06_text.j4]
 rw [if_neg (by decide),if_pos hal,if_pos hal,wrap_small _ (by omega) (by omega),show ((i : Int) + 2) = ((i + 2 : Nat) : Int) from by omega]
 by_cases h : d = 110
 ·rw [if_pos (by rw [h];rfl),if_pos h];simp [numsOf]
 ·rw [if_neg (show ¬ (d.toNat : Int) = 110 from fun e => h ((byte_num d 110 (by omega)).mp e)),if_neg h];simp [numsOf]
theorem text_j3 (s : ByteArray) (k i : Nat) (acc : List UInt8) (d : UInt8) (ha : acc.length ≤ 1000000) (hi : i ≤ 1000000) : truffleref06_text.j3 (k + 2) s (numsOf acc) i (d.toNat : Int) false = if d = 34 ∨ d = 92 ∨ d = 110 then truffleref06_text.l0 k s (numsOf (acc ++ [if d = 110 then 10 else d])) ((i + 2 : Nat) : Int) else some (⟨#[]⟩,-1) := by
 simp only [truffleref06_text.j3]
 rw [if_neg (by decide)]
 have e34 : ((d.toNat : Int) = 34) ↔ d = 34 := byte_num d 34 (by omega)
 have e92 : ((d.toNat : Int) = 92) ↔ d = 92 := byte_num d 92 (by omega)
 have e110 : ((d.toNat : Int) = 110) ↔ d = 110 := byte_num d 110 (by omega)
 by_cases h110 : d = 110
 ·rw [if_pos (e110.mpr h110),if_pos (.inr (.inr h110)),text_j4 s k i acc d ha hi]
 ·rw [if_neg (fun e => h110 (e110.mp e))]
  by_cases h92 : d = 92
  ·rw [if_pos (e92.mpr h92),if_pos (.inr (.inl h92)),text_j4 s k i acc d ha hi]
  ·rw [if_neg (fun e => h92 (e92.mp e))]
   by_cases h34 : d = 34
   ·have : ((d.toNat : Int) != 34) = false := by rw [h34];rfl
    rw [this,if_pos (.inl h34),text_j4 s k i acc d ha hi]
   ·have : ((d.toNat : Int) != 34) = true := by rw [bne_iff_ne];exact fun e => h34 (e34.mp e)
    rw [this,if_neg (by rintro (h | h | h);exact h34 h;exact h92 h;exact h110 h)]
    simp only [truffleref06_text.j4,if_true]
theorem cn34 (c : UInt8) : ((c.toNat : Int) = 34) ↔ c = 34 := byte_num c 34 (by omega)
theorem cn92 (c : UInt8) : ((c.toNat : Int) = 92) ↔ c = 92 := byte_num c 92 (by omega)
theorem cn120 (c : UInt8) : ((c.toNat : Int) = 120) ↔ c = 120 := byte_num c 120 (by omega)
theorem cn127 (c : UInt8) : ((c.toNat : Int) = 127) ↔ c = 127 := byte_num c 127 (by omega)
theorem cn32 (c : UInt8) : ((c.toNat : Int) < 32) ↔ c < 32 := by rw [UInt8.lt_iff_toNat_lt];show _ ↔ c.toNat < 32;omega
theorem wrc2 (i : Nat) (h : i ≤ 1000000) : wrap64 ((i : Int) + 2) = ((i + 2 : Nat) : Int) := by rw [wrap_small _ (by omega) (by omega)];omega
theorem wrc3 (i : Nat) (h : i ≤ 1000000) : wrap64 ((i : Int) + 3) = ((i + 3 : Nat) : Int) := by rw [wrap_small _ (by omega) (by omega)];omega
theorem wrc4 (i : Nat) (h : i ≤ 1000000) : wrap64 ((i : Int) + 4) = ((i + 4 : Nat) : Int) := by rw [wrap_small _ (by omega) (by omega)];omega
set_option maxHeartbeats 8000000 in
theorem text_ref (s : ByteArray) (hs : s.size ≤ 1000000) : ∀ (d k i : Nat) (acc : List UInt8) (f : Nat),i ≤ s.size → s.size - i ≤ d → 6 * d + 6 < k → d < f → acc.length ≤ i →
  (∀ t n,strL f ((bl s).drop i) = some (t,n) → truffleref06_text.l0 k s (numsOf acc) i = some (⟨(acc ++ t).toArray⟩,((i + n : Nat) : Int))) ∧
  (strL f ((bl s).drop i) = none → truffleref06_text.l0 k s (numsOf acc) i = some (⟨#[]⟩,-1)) := by
 intro d
 induction d with
 | zero =>
  intro k i acc f hi hd hk hf ha
  obtain ⟨k,rfl⟩ : ∃ m,k = m + 2 := ⟨k - 2,by omega⟩
  obtain ⟨f,rfl⟩ : ∃ m,f = m + 1 := ⟨f - 1,by omega⟩
  obtain rfl : i = s.size := by omega
  simp only [truffleref06_text.l0,truffleref06_text.j1]
  rw [if_neg (by omega),if_neg (by decide),if_pos (by omega),List.drop_of_length_le (by rw [bl_length];omega)]
  simp [strL]
 | succ d ih =>
  intro k i acc f hi hd hk hf ha
  obtain ⟨k,rfl⟩ : ∃ m,k = m + 6 := ⟨k - 6,by omega⟩
  obtain ⟨f,rfl⟩ : ∃ m,f = m + 1 := ⟨f - 1,by omega⟩
  by_cases hlt : i < s.size
  ·have hw := Y0 (show wrap64 ((i : Int) + 1) = ((i + 1 : Nat) : Int) by rw [wrap_small _ (by omega) (by omega)];omega)
   have hal : (numsOf acc).length < 140737488355328 := by unfold numsOf;rw [List.length_map];omega
   rw [truffleref06_text.l0,if_pos (by omega),if_pos (by omega),drop_bl s i hlt,bt_nat s i hlt]
   generalize hc : s[i] = c
   rw [truffleref06_text.j1]
   obtain ⟨L,hL⟩ : ∃ L,strL (f + 1) (c :: (bl s).drop (i + 1)) = L := ⟨_,rfl⟩
   rw [hL]
   simp only [strL] at hL
   by_cases h34 : c = 34
   ·have : ((c.toNat : Int) != 34) = false := by rw [h34];rfl
    rw [this,if_neg (by decide),if_neg (by omega),hw.out]
    rw [if_pos h34] at hL
    subst hL
    refine ⟨fun t n h => ?_,fun h => by cases h⟩
    simp only [Option.some.injEq,Prod.mk.injEq] at h
    obtain ⟨rfl,rfl⟩ := h
    rw [strOf_nums,List.append_nil]
   ·have : ((c.toNat : Int) != 34) = true := by rw [bne_iff_ne];exact fun e => h34 ((cn34 c).mp e)
    rw [this,if_pos rfl,if_pos (by omega),if_pos (by omega),bt_nat s i hlt,hc]
    rw [if_neg h34] at hL
    by_cases h32 : c < 32
    ·have h92 : ¬ c = 92 := by rintro rfl;revert h32;decide
     rw [if_pos ((cn32 c).mpr h32),truffleref06_text.j2,if_pos rfl]
     rw [if_neg h92,if_pos h32] at hL
     subst hL
     exact ⟨fun t n h => (by cases h),fun _ => rfl⟩
    ·rw [if_neg (fun e => h32 ((cn32 c).mp e))]
     by_cases h127 : c = 127
     ·have h92 : ¬ c = 92 := by rintro rfl;revert h127;decide
      have : ((c.toNat : Int) == 127) = true := by rw [h127];rfl
      rw [this,truffleref06_text.j2,if_pos rfl]
      rw [if_neg h92,if_neg h32,if_pos h127] at hL
      subst hL
      exact ⟨fun t n h => (by cases h),fun _ => rfl⟩
     ·have : ((c.toNat : Int) == 127) = false := by rw [beq_eq_false_iff_ne];exact fun e => h127 ((cn127 c).mp e)
      rw [this,truffleref06_text.j2,if_neg (by decide)]
      by_cases h92 : c = 92
      ·rw [if_pos ((cn92 c).mpr h92),hw.out]
       rw [if_pos h92] at hL
       by_cases hl1 : i + 1 < s.size
       ·rw [if_neg (by omega),if_pos (by omega),if_pos (by omega),bt_nat s (i + 1) hl1]
        rw [drop_bl s (i + 1) hl1] at hL
        generalize hd2 : s[i + 1] = x at hL ⊢
        have HL := Y0 hL
        clear hL
        have hw2 := Y0 (wrc2 i (by omega))
        have hw3 := Y0 (wrc3 i (by omega))
        have hw4 := Y0 (wrc4 i (by omega))
        -- what stands behind the mark,by one step of the reader
        have hgo : ∀ m n k',markL (x :: (bl s).drop (i + 1 + 1)) = some (m,n) → 6 * d + 6 < k' →
          (∀ t n',(strL f ((x :: (bl s).drop (i + 1 + 1)).drop n)).map (fun y => (m :: y.1,n + 1 + y.2)) = some (t,n') → truffleref06_text.l0 k' s (numsOf (acc ++ [m])) ((i + 1 + n : Nat) : Int) = some (⟨(acc ++ t).toArray⟩,((i + n' : Nat) : Int))) ∧
          ((strL f ((x :: (bl s).drop (i + 1 + 1)).drop n)).map (fun y => (m :: y.1,n + 1 + y.2)) = none → truffleref06_text.l0 k' s (numsOf (acc ++ [m])) ((i + 1 + n : Nat) : Int) = some (⟨#[]⟩,-1)) := by
         intro m n k' hm hk'
         obtain ⟨q1,q2⟩ := markL_le _ m n hm
         rw [← hd2,← drop_bl s (i + 1) hl1,List.drop_drop]
         rw [← hd2,← drop_bl s (i + 1) hl1,List.length_drop,bl_length] at q2
         obtain ⟨g1,g2⟩ := ih k' (i + 1 + n) (acc ++ [m]) f (by omega) (by omega) hk' (by omega) (by simp;omega)
         constructor
         ·intro t n' h
          obtain ⟨⟨t',n2⟩,h3,h4⟩ := Option.map_eq_some_iff.mp h
          simp only [Prod.mk.injEq] at h4
          obtain ⟨rfl,rfl⟩ := h4
          rw [g1 t' n2 h3,show i + 1 + n + n2 = i + (n + 1 + n2) from by omega]
          simp only [List.append_assoc,List.singleton_append]
         ·intro h
          exact g2 (Option.map_eq_none_iff.mp h)
        by_cases h120 : x = 120
        ·rw [if_pos ((cn120 x).mpr h120),hw3.out,hw2.out]
         have hno : ∀ k',truffleref06_text.j3 (k' + 2) s (numsOf acc) i (x.toNat : Int) false = some (⟨#[]⟩,-1) := by
          intro k'
          rw [text_j3 s k' i acc x (by omega) (by omega),if_neg (by rw [h120];decide)]
         by_cases hl3 : i + 3 < s.size
         ·have e2 := drop_bl s (i + 1 + 1) (by omega)
          have e3 := drop_bl s (i + 1 + 1 + 1) (by omega)
          rw [if_pos (by omega),if_pos (by omega),if_pos (by omega),bt_nat s (i + 2) (by omega),bt_nat s (i + 3) (by omega),hex_ref,hex_ref]
          simp only [Option.bind_some]
          have hm : markL (x :: (bl s).drop (i + 1 + 1)) = if 0 ≤ hexI s[i + 2] ∧ 0 ≤ hexI s[i + 3] then some (UInt8.ofNat ((hexI s[i + 2]).toNat * 16 + (hexI s[i + 3]).toNat),3) else none := by
           rw [e2,e3,h120]
           simp only [markL]
           rw [if_neg (by decide),if_neg (by decide),if_neg (by decide),if_pos trivial]
          have ra := hexI_range s[i + 2]
          have rb := hexI_range s[i + 3]
          by_cases hA : 0 ≤ hexI s[i + 2]
          ·rw [if_pos hA,if_pos (by omega)]
           by_cases hB : 0 ≤ hexI s[i + 3]
           ·rw [decide_eq_true hB,truffleref06_text.j3,if_pos rfl,hw2.out,hw3.out,if_pos (by omega),if_pos (by omega),bt_nat s (i + 2) (by omega),hex_ref,Option.bind_some,if_pos (by omega),if_pos (by omega),bt_nat s (i + 3) (by omega),hex_ref,Option.bind_some]
            rw [if_pos hal,hw4.out]
            rw [if_pos ⟨hA,hB⟩] at hm
            have hv : wrap64 (wrap64 (16 * hexI s[i + 2]) + hexI s[i + 3]) % 256 = ((UInt8.ofNat ((hexI s[i + 2]).toNat * 16 + (hexI s[i + 3]).toNat)).toNat : Int) := by
             rw [UInt8.toNat_ofNat',Nat.mod_eq_of_lt (by omega),wrap_small (16 * hexI s[i + 2]) (by omega) (by omega),wrap_small _ (by omega) (by omega)];omega
            rw [hv]
            have hL := HL.out
            rw [hm] at hL
            subst hL
            have := hgo _ _ (k + 2) hm (by omega)
            rw [show i + 1 + 3 = i + 4 from by omega] at this
            simpa [numsOf] using this
           ·rw [if_neg (fun h => hB h.2)] at hm
            rw [decide_eq_false hB,show k + 3 = k + 1 + 2 from rfl,hno]
            have hL := HL.out
            rw [hm] at hL
            subst hL
            exact ⟨fun t n h => (by cases h),fun _ => rfl⟩
          ·rw [if_neg (fun h => hA h.1)] at hm
           rw [if_neg hA,show k + 3 = k + 1 + 2 from rfl,hno]
           have hL := HL.out
           rw [hm] at hL
           subst hL
           exact ⟨fun t n h => (by cases h),fun _ => rfl⟩
         ·have hm : markL (x :: (bl s).drop (i + 1 + 1)) = none := by
           rw [h120]
           simp only [markL]
           rw [if_neg (by decide),if_neg (by decide),if_neg (by decide),if_pos trivial]
           have hl : ((bl s).drop (i + 1 + 1)).length ≤ 1 := by rw [List.length_drop,bl_length];omega
           match (bl s).drop (i + 1 + 1),hl with
           | [],_ => rfl
           | [_],_ => rfl
           | _ :: _ :: _,h => simp at h
          rw [if_neg (by omega),show k + 3 = k + 1 + 2 from rfl,hno]
          have hL := HL.out
          rw [hm] at hL
          subst hL
          exact ⟨fun t n h => (by cases h),fun _ => rfl⟩
        ·rw [if_neg (fun e => h120 ((cn120 x).mp e)),show k + 3 = k + 1 + 2 from rfl,text_j3 s (k + 1) i acc x (by omega) (by omega)]
         by_cases hx : x = 34 ∨ x = 92 ∨ x = 110
         ·have hm : markL (x :: (bl s).drop (i + 1 + 1)) = some (if x = 110 then 10 else x,1) := by
           simp only [markL]
           rcases hx with rfl | rfl | rfl
           ·rw [if_pos rfl];rfl
           ·rw [if_neg (by decide),if_pos rfl];rfl
           ·rw [if_neg (by decide),if_neg (by decide),if_pos rfl];rfl
          rw [if_pos hx]
          have hL := HL.out
          rw [hm] at hL
          subst hL
          exact hgo _ _ (k + 1) hm (by omega)
         ·have hm : markL (x :: (bl s).drop (i + 1 + 1)) = none := by
           simp only [markL]
           rw [if_neg (fun h => hx (.inl h)),if_neg (fun h => hx (.inr (.inl h))),if_neg (fun h => hx (.inr (.inr h))),if_neg h120]
          rw [if_neg hx]
          have hL := HL.out
          rw [hm] at hL
          subst hL
          exact ⟨fun t n h => (by cases h),fun _ => rfl⟩
       ·have : (bl s).drop (i + 1) = [] := List.drop_of_length_le (by rw [bl_length];omega)
        rw [if_pos (by omega)]
        rw [this] at hL
        subst hL
        exact ⟨fun t n h => (by cases h),fun _ => rfl⟩
      ·rw [if_neg (fun e => h92 ((cn92 c).mp e)),if_pos hal,hw.out]
       rw [if_neg h92,if_neg h32,if_neg h127] at hL
       subst hL
       have hacc : numsOf acc ++ [(c.toNat : Int)] = numsOf (acc ++ [c]) := by simp [numsOf]
       rw [hacc]
       obtain ⟨g1,g2⟩ := ih (k + 3) (i + 1) (acc ++ [c]) f (by omega) (by omega) (by omega) (by omega) (by simp;omega)
       constructor
       ·intro t n' h
        obtain ⟨⟨t',n2⟩,h3,h4⟩ := Option.map_eq_some_iff.mp h
        simp only [Prod.mk.injEq] at h4
        obtain ⟨rfl,rfl⟩ := h4
        rw [g1 t' n2 h3,show i + 1 + n2 = i + (n2 + 1) from by omega]
        simp only [List.append_assoc,List.singleton_append]
       ·intro h
        exact g2 (Option.map_eq_none_iff.mp h)
  ·obtain ⟨g1,g2⟩ := ih (k + 6) i acc (f + 1) hi (by omega) (by omega) (by omega) ha
   exact ⟨g1,g2⟩
theorem nameU_eq (c : UInt8) : nameU c = (decide (ofK (c.toNat : Int) = 0) || numU c) := rfl
theorem ext_take (s : ByteArray) (i n : Nat) : s.extract i (i + n) = ⟨(((bl s).drop i).take n).toArray⟩ := by
 apply eq_of_bl
 rw [extract_bl,show i + n - i = n from by omega]
theorem one_l0 (s : ByteArray) (hs : s.size ≤ 1000000) (i : Nat) : ∀ d k j : Nat,i ≤ j → j ≤ s.size → s.size - j ≤ d → d < k →
  truffleref06_one.l0 k s i j = some ((0 : Int),s.extract i (j + (((bl s).drop j).takeWhile nameU).length),(0 : Int),(i : Int),((j + (((bl s).drop j).takeWhile nameU).length : Nat) : Int)) := by
 intro d
 induction d with
 | zero =>
  intro k j hij hj hd hk
  obtain ⟨k,rfl⟩ : ∃ m,k = m + 1 := ⟨k - 1,by omega⟩
  obtain rfl : j = s.size := by omega
  rw [List.drop_of_length_le (by rw [bl_length];omega),truffleref06_one.l0,if_neg (by omega),if_pos (by omega),if_pos (by omega),if_pos (by omega)]
  simp
 | succ d ih =>
  intro k j hij hj hd hk
  obtain ⟨k,rfl⟩ : ∃ m,k = m + 1 := ⟨k - 1,by omega⟩
  by_cases hlt : j < s.size
  ·have hw : wrap64 ((j : Int) + 1) = ((j + 1 : Nat) : Int) := by rw [wrap_small _ (by omega) (by omega)];omega
   have hn := ih k (j + 1) (by omega) (by omega) (by omega) (by omega)
   rw [truffleref06_one.l0,if_pos (by omega),if_pos (by omega),bt_nat s j hlt,letter_ref,digit_ref,hw]
   simp only [Option.bind_some]
   rw [hn,drop_bl s j hlt,List.takeWhile_cons,nameU_eq]
   by_cases hl : ofK (s[j].toNat : Int) = 0
   ·rw [if_pos (decide_eq_true hl),decide_eq_true hl,Bool.true_or,if_pos rfl,List.length_cons,show j + 1 + (((bl s).drop (j + 1)).takeWhile nameU).length = j + ((((bl s).drop (j + 1)).takeWhile nameU).length + 1) from by omega]
   ·rw [if_neg (by rw [decide_eq_false hl];decide),decide_eq_false hl,Bool.false_or]
    by_cases hu : numU s[j] = true
    ·rw [if_pos hu,if_pos hu,List.length_cons,show j + 1 + (((bl s).drop (j + 1)).takeWhile nameU).length = j + ((((bl s).drop (j + 1)).takeWhile nameU).length + 1) from by omega]
    ·rw [if_neg hu,if_neg hu,if_pos (by omega),if_pos (by omega),if_pos (by omega)]
     simp
  ·exact ih (k + 1) j hij hj (by omega) (by omega)
theorem one_l1 (s : ByteArray) (hs : s.size ≤ 1000000) (i : Nat) : ∀ d k j : Nat,i ≤ j → j ≤ s.size → s.size - j ≤ d → d + s.size + 201 < k →
  (numOk (bl (s.extract i (j + (((bl s).drop j).takeWhile numU).length))) = true → truffleref06_one.l1 k s i j = some ((1 : Int),s.extract i (j + (((bl s).drop j).takeWhile numU).length),numV (bl (s.extract i (j + (((bl s).drop j).takeWhile numU).length))),(i : Int),((j + (((bl s).drop j).takeWhile numU).length : Nat) : Int))) ∧
  (¬ numOk (bl (s.extract i (j + (((bl s).drop j).takeWhile numU).length))) = true → ∃ a b c e,truffleref06_one.l1 k s i j = some (a,b,c,e,-1)) := by
 have hfin : ∀ k j : Nat,i ≤ j → j ≤ s.size → s.size + 200 < k →
   (numOk (bl (s.extract i j)) = true → ((truffleref06_number.f k (s.extract i j)).bind fun bt => if bt.2 = true then some ((1 : Int),s.extract i j,bt.1,(i : Int),(j : Int)) else some (0,⟨#[]⟩,0,0,-1)) = some ((1 : Int),s.extract i j,numV (bl (s.extract i j)),(i : Int),(j : Int))) ∧
   (¬ numOk (bl (s.extract i j)) = true → ((truffleref06_number.f k (s.extract i j)).bind fun bt => if bt.2 = true then some ((1 : Int),s.extract i j,bt.1,(i : Int),(j : Int)) else some (0,⟨#[]⟩,0,0,-1)) = some (0,⟨#[]⟩,0,0,-1)) := by
  intro k j hij hj hk
  have hz : (s.extract i j).size ≤ s.size := by rw [ByteArray.size_extract];omega
  obtain ⟨v,ok,e,h1,h2⟩ := number_ref (s.extract i j) (by omega) k (by omega)
  rw [e]
  simp only [Option.bind_some]
  constructor
  ·intro h;obtain ⟨rfl,rfl⟩ := h1 h;rw [if_pos rfl]
  ·intro h;rw [if_neg (fun e => h (h2 e))]
 intro d
 induction d with
 | zero =>
  intro k j hij hj hd hk
  obtain ⟨k,rfl⟩ : ∃ m,k = m + 1 := ⟨k - 1,by omega⟩
  obtain rfl : j = s.size := by omega
  rw [List.drop_of_length_le (by rw [bl_length];omega),truffleref06_one.l1,if_neg (by omega),if_pos (by omega),if_pos (by omega),if_pos (by omega)]
  simp only [Int.toNat_natCast,List.takeWhile_nil,List.length_nil,Nat.add_zero]
  obtain ⟨h1,h2⟩ := hfin k s.size hij (Nat.le_refl _) (by omega)
  exact ⟨h1,fun h => ⟨_,_,_,_,h2 h⟩⟩
 | succ d ih =>
  intro k j hij hj hd hk
  obtain ⟨k,rfl⟩ : ∃ m,k = m + 1 := ⟨k - 1,by omega⟩
  by_cases hlt : j < s.size
  ·have hw : wrap64 ((j : Int) + 1) = ((j + 1 : Nat) : Int) := by rw [wrap_small _ (by omega) (by omega)];omega
   have hn := ih k (j + 1) (by omega) (by omega) (by omega) (by omega)
   rw [truffleref06_one.l1,if_pos (by omega),if_pos (by omega),bt_nat s j hlt,digit_ref,hw]
   simp only [Option.bind_some]
   rw [drop_bl s j hlt,List.takeWhile_cons]
   by_cases hu : numU s[j] = true
   ·rw [if_pos hu,if_pos hu,List.length_cons,show j + ((((bl s).drop (j + 1)).takeWhile numU).length + 1) = j + 1 + (((bl s).drop (j + 1)).takeWhile numU).length from by omega]
    exact hn
   ·rw [if_neg hu,if_neg hu,if_pos (by omega),if_pos (by omega),if_pos (by omega)]
    simp only [Int.toNat_natCast,List.length_nil,Nat.add_zero]
    obtain ⟨h1,h2⟩ := hfin k j hij hj (by omega)
    exact ⟨h1,fun h => ⟨_,_,_,_,h2 h⟩⟩
  ·exact ih (k + 1) j hij hj (by omega) (by omega)
theorem numU_of (c : UInt8) : numU c = (decide (ofK (c.toNat : Int) = 1) && !decide (c = 45)) := by
 have e45 := byte_num c 45 (by omega)
 unfold numU numB
 by_cases h : c = 45
 ·have : ((c.toNat : Int) != 45) = false := by rw [h];rfl
  rw [this,decide_eq_true h,Bool.and_false,Bool.not_true,Bool.and_false]
 ·have : ((c.toNat : Int) != 45) = true := by rw [bne_iff_ne];exact fun e => h (e45.mp e)
  rw [this,decide_eq_false h,Bool.and_true,Bool.not_false,Bool.and_true]
  rfl
theorem one_ref (s : ByteArray) (hs : s.size ≤ 1000000) (k i : Nat) (hi : i < s.size) (hk : 10 * s.size + 1000 < k) :
  (∀ kd t v n,lex1 ((bl s).drop i) = some (kd,t,v,n) → truffleref06_one.f k s i = some (kd,(⟨t.toArray⟩ : ByteArray),v,(i : Int),((i + n : Nat) : Int))) ∧
  (lex1 ((bl s).drop i) = none → ∃ a b c d,truffleref06_one.f k s i = some (a,b,c,d,-1)) := by
 obtain ⟨k,rfl⟩ : ∃ m,k = m + 1 := ⟨k - 1,by omega⟩
 have hw : wrap64 ((i : Int) + 1) = ((i + 1 : Nat) : Int) := by rw [wrap_small _ (by omega) (by omega)];omega
 unfold truffleref06_one.f
 rw [if_pos (by omega),if_pos (by omega),bt_nat s i hi,letter_ref,digit_ref,hw]
 simp only [Option.bind_some]
 have hd := drop_bl s i hi
 have hx := fun n => ext_take s i n
 rw [hd] at hx ⊢
 generalize hc : s[i] = c at hx
 generalize hr : (bl s).drop (i + 1) = r at hx
 have e34 : ((c.toNat : Int) = 34) ↔ c = 34 := cn34 c
 have e45 : ((c.toNat : Int) = 45) ↔ c = 45 := byte_num c 45 (by omega)
 rw [lex1_cons]
 by_cases h0 : ofK (c.toNat : Int) = 0
 ·rw [if_pos (decide_eq_true h0),if_neg (by omega),if_pos h0]
  refine ⟨fun kd t v n h => ?_,fun h => (by cases h)⟩
  simp only [Option.some.injEq,Prod.mk.injEq] at h
  obtain ⟨rfl,rfl,rfl,rfl⟩ := h
  rw [one_l0 s hs i s.size (k + 1) (i + 1) (by omega) (by omega) (by omega) (by omega),hr]
  have e : i + 1 + (r.takeWhile nameU).length = i + runN nameU (c :: r) := by simp only [runN];omega
  rw [e,hx]
 ·have d0 : ¬ (decide (ofK (c.toNat : Int) = 0) = true) := by rw [decide_eq_false h0];decide
  rw [if_neg d0,if_neg h0]
  by_cases h1 : ofK (c.toNat : Int) = 1
  ·have hgo : (if numU c = true then truffleref06_one.j1 (k + 1) s i (c.toNat : Int) ((i + 1 : Nat) : Int) true else truffleref06_one.j1 (k + 1) s i (c.toNat : Int) ((i + 1 : Nat) : Int) ((c.toNat : Int) == 45)) = truffleref06_one.l1 k s i ((i + 1 : Nat) : Int) := by
    by_cases hu : numU c = true
    ·rw [if_pos hu,truffleref06_one.j1,if_pos rfl]
    ·have h45 : c = 45 := by
      rw [numU_of,decide_eq_true h1] at hu
      simpa using hu
     have : ((c.toNat : Int) == 45) = true := by rw [h45];rfl
     rw [if_neg hu,this,truffleref06_one.j1,if_pos rfl]
   have n4 : ¬ ofK (c.toNat : Int) = 4 := by rw [h1];decide
   rw [hgo,if_neg n4,if_pos h1]
   obtain ⟨g1,g2⟩ := one_l1 s hs i s.size k (i + 1) (by omega) (by omega) (by omega) (by omega)
   have e : i + 1 + (r.takeWhile numU).length = i + runN numU (c :: r) := by simp only [runN];omega
   rw [hr,e,hx] at g1 g2
   by_cases hok : numOk ((c :: r).take (runN numU (c :: r))) = true
   ·rw [if_pos hok]
    refine ⟨fun kd t v n h => ?_,fun h => (by cases h)⟩
    simp only [Option.some.injEq,Prod.mk.injEq] at h
    obtain ⟨rfl,rfl,rfl,rfl⟩ := h
    exact g1 hok
   ·rw [if_neg hok]
    exact ⟨fun _ _ _ _ h => (by cases h),fun _ => g2 hok⟩
  ·have hu : numU c = false := by rw [numU_of,decide_eq_false h1];rfl
   have h45 : ((c.toNat : Int) == 45) = false := by
    rw [beq_eq_false_iff_ne]
    intro e
    exact h1 (by rw [e];decide)
   have ft : ¬ (false = true) := by decide
   rw [hu,if_neg ft,if_neg h1,h45,truffleref06_one.j1,if_neg ft]
   by_cases h34 : c = 34
   ·have h2 : ofK (c.toNat : Int) = 2 := by rw [h34];decide
    have n4 : ¬ ofK (c.toNat : Int) = 4 := by rw [h2];decide
    rw [if_pos (e34.mpr h34),if_neg n4,if_pos h2]
    unfold truffleref06_text.f
    rw [hw]
    obtain ⟨g1,g2⟩ := text_ref s hs (s.size - (i + 1)) k (i + 1) [] (r.length + 1) (by omega) (by omega) (by omega) (by rw [← hr,List.length_drop,bl_length];omega) (by simp)
    rw [hr] at g1 g2
    constructor
    ·intro kd t v n h
     obtain ⟨⟨t',n'⟩,h3,h5⟩ := Option.map_eq_some_iff.mp h
     simp only [Prod.mk.injEq] at h5
     obtain ⟨rfl,rfl,rfl,rfl⟩ := h5
     have := g1 t' n' h3
     rw [show numsOf [] = ([] : List Int) from rfl] at this
     rw [this]
     simp only [Option.bind_some,List.nil_append]
     rw [show i + 1 + n' = i + (n' + 1) from by omega]
    ·intro h
     have := g2 (Option.map_eq_none_iff.mp h)
     rw [show numsOf [] = ([] : List Int) from rfl] at this
     rw [this]
     exact ⟨_,_,_,_,rfl⟩
   ·rw [if_neg (fun e => h34 (e34.mp e)),signed_ref c k (by omega)]
    simp only [Option.bind_some]
    have hof : ofK (c.toNat : Int) = if 0 ≤ Lib.indexByte signsL c then 3 else 4 := by
     unfold ofK at h0 h1 ⊢
     have hcc : ((c.toNat : Int)).toNat.toUInt8 = c := by simp
     rw [hcc] at h0 h1 ⊢
     split at h0
     ·exact absurd rfl h0
     ·rename_i a1
      rw [if_neg a1] at h1
      split at h1
      ·exact absurd rfl h1
      ·rename_i a2
       rw [if_neg a1,if_neg a2,if_neg (fun e => h34 (e34.mp e))]
    by_cases hs3 : 0 ≤ Lib.indexByte signsL c
    ·rw [if_pos hs3] at hof
     have n4 : ¬ ofK (c.toNat : Int) = 4 := by rw [hof];decide
     have n2 : ¬ ofK (c.toNat : Int) = 2 := by rw [hof];decide
     rw [decide_eq_true hs3,if_neg n4,if_neg n2,if_pos rfl,if_pos (by omega),if_pos (by omega),if_pos (by omega)]
     refine ⟨fun kd t v n h => ?_,fun h => (by cases h)⟩
     simp only [Option.some.injEq,Prod.mk.injEq] at h
     obtain ⟨rfl,rfl,rfl,rfl⟩ := h
     rw [Int.toNat_natCast,Int.toNat_natCast,hx 1]
     rfl
    ·rw [if_neg hs3] at hof
     rw [decide_eq_false hs3,if_pos hof,if_neg ft]
     exact ⟨fun _ _ _ _ h => (by cases h),fun _ => ⟨_,_,_,_,rfl⟩⟩
theorem all_l0 (s : ByteArray) (hs : s.size ≤ 1000000) : ∀ (d k i m f : Nat) (acc : List TokS),i ≤ s.size → s.size - i ≤ d → d + 20 * s.size + 2000 < k → d < f → acc.length + m = 1000 →
  truffleref06_All.l0 k s acc i = some (endL s acc (lexL f m i ((bl s).drop i))) := by
 intro d
 induction d with
 | zero =>
  intro k i m f acc hi hd hk hf hm
  obtain ⟨k,rfl⟩ : ∃ m,k = m + 1 := ⟨k - 1,by omega⟩
  obtain ⟨f,rfl⟩ : ∃ m,f = m + 1 := ⟨f - 1,by omega⟩
  obtain rfl : i = s.size := by omega
  rw [truffleref06_All.l0,if_neg (by omega),List.drop_of_length_le (by rw [bl_length];omega)]
  simp [lexL,endL]
 | succ d ih =>
  intro k i m f acc hi hd hk hf hm
  obtain ⟨k,rfl⟩ : ∃ m,k = m + 1 := ⟨k - 1,by omega⟩
  obtain ⟨f,rfl⟩ : ∃ m,f = m + 1 := ⟨f - 1,by omega⟩
  by_cases hlt : i < s.size
  ·rw [truffleref06_All.l0,if_pos (by omega)]
   obtain ⟨h1,h2⟩ := one_ref s hs k i hlt (by omega)
   have hstep := lexL_step f m i s[i] ((bl s).drop (i + 1))
   rw [← drop_bl s i hlt] at hstep
   rw [hstep]
   cases hx : lex1 ((bl s).drop i) with
   | none =>
    obtain ⟨a,b,c,e,h⟩ := h2 hx
    rw [h];rfl
   | some x =>
    obtain ⟨kd,t,v,n⟩ := x
    obtain ⟨n1,n2⟩ := lex1_le _ _ _ _ _ hx
    rw [List.length_drop,bl_length] at n2
    rw [h1 kd t v n hx]
    simp only [Option.bind_some]
    rw [if_neg (by omega)]
    by_cases hmm : m = 0
    ·rw [if_pos (by omega),if_pos hmm];rfl
    ·have hsk := (blank_ref s (by omega) s.size (i + n) (by omega) (by omega)).1 k (by omega)
     have hle := skipN_le false ((bl s).drop (i + n))
     rw [List.length_drop,bl_length] at hle
     unfold truffleref06_blank.f
     rw [if_neg (by omega),if_pos (by omega),hsk,if_neg hmm]
     simp only [Option.bind_some,List.drop_drop]
     rw [ih k _ (m - 1) f _ (by omega) (by omega) (by omega) (by omega) (by simp;omega)]
     rw [show i + n + skipN false ((bl s).drop (i + n)) = i + (n + skipN false ((bl s).drop (i + n))) from by omega]
     cases lexL f (m - 1) (i + (n + skipN false ((bl s).drop (i + n)))) ((bl s).drop (i + (n + skipN false ((bl s).drop (i + n))))) with
     | inl ts => simp [endL,preE]
     | inr e => rfl
  ·exact ih (k + 1) i m (f + 1) acc hi (by omega) (by omega) (by omega) hm
theorem all_ref (s : ByteArray) (K : Nat) (hs : s.size ≤ 1000000) (hK : 30 * s.size + 3000 < K) : truffleref06_All.f K s = some (allF s) := by
 unfold truffleref06_All.f allF
 by_cases h : s.size > 5000
 ·rw [if_pos (by omega),if_pos h]
 ·rw [if_neg (by omega),if_neg h]
  have hsk := (blank_ref s (by omega) s.size 0 (by omega) (by omega)).1 K (by omega)
  have hle := skipN_le false (bl s)
  rw [bl_length] at hle
  rw [List.drop_zero,Nat.zero_add] at hsk
  unfold truffleref06_blank.f
  rw [show ((0 : Nat) : Int) = 0 from rfl] at hsk
  rw [hsk]
  simp only [Option.bind_some]
  unfold allL
  exact all_l0 s hs s.size K (skipN false (bl s)) 1000 ((bl s).length + 1) [] hle (by omega) (by omega) (by rw [bl_length];omega) (by simp)
theorem node_ext {k k' : Int} {t t' : ByteArray} {n n' a a' : Int} {l l' : List NodeS} : (⟨k,t,n,a,l⟩ : NodeS) = ⟨k',t',n',a',l'⟩ ↔ k = k' ∧ t = t' ∧ n = n' ∧ a = a' ∧ l = l' := by
 constructor
 ·intro h;injection h with h1 h2 h3 h4 h5;exact ⟨h1,h2,h3,h4,h5⟩
 ·rintro ⟨rfl,rfl,rfl,rfl,rfl⟩;rfl
theorem same_er : ∀ (N : Nat) (x y : NodeS),SizeOf.sizeOf x ≤ N → (sameB x y = true ↔ erN x = erN y) := by
 intro N
 induction N with
 | zero => intro x y hN;obtain ⟨k,t,n,a,l⟩ := x;simp only [S39.mk.sizeOf_spec] at hN;omega
 | succ N ih =>
  intro x y hN
  obtain ⟨k,t,n,a,l⟩ := x
  obtain ⟨k',t',n',a',l'⟩ := y
  have hl : ∀ (l l' : List NodeS),(∀ z ∈ l,SizeOf.sizeOf z ≤ N) → (sameL l l' = true ↔ erL l = erL l') := by
   intro l
   induction l with
   | nil => intro l' _;cases l' <;> simp [sameL,erL]
   | cons z r ihr =>
    intro l' hz
    cases l' with
    | nil => simp [sameL,erL]
    | cons u s =>
     rw [sameL,Bool.and_eq_true,ih z u (hz z (by simp)),ihr s (fun v hv => hz v (by simp [hv])),erL,erL]
     simp
  rw [sameB,erN,erN,node_ext,← hl l l' (fun z hz => by have := size_in ⟨k,t,n,a,l⟩ z hz;omega)]
  by_cases h1 : k = k'
  ·rw [if_pos h1]
   by_cases h2 : t.toList = t'.toList
   ·rw [if_pos h2]
    have h2' : t = t' := by rw [toList_bl,toList_bl] at h2;exact eq_of_bl h2
    by_cases h3 : n = n'
    ·rw [if_pos h3];simp [h1,h2',h3]
    ·rw [if_neg h3];simp [h3]
   ·rw [if_neg h2]
    have h2' : ¬ t = t' := fun h => h2 (by rw [h])
    simp [h2']
  ·rw [if_neg h1];simp [h1]
theorem same_iff (x y : NodeS) : sameB x y = true ↔ erN x = erN y := same_er _ x y (Nat.le_refl _)
theorem textS_size (x : NodeS) : (textS x).size = (textN x).length := by rw [← bl_length];rfl
mutual
def totB : NodeS → Nat
 | ⟨_,t,_,_,l⟩ => 1 + t.size / 100 + totL l
def totL : List NodeS → Nat
 | [] => 0
 | x :: r => totB x + totL r
end
def FewP (x : NodeS) (d : Nat) : Prop := ∃ (k : Nat) (r : Int),(∀ k',k ≤ k' → truffleref14_count.f k' x.f0 x.f1 x.f2 x.f3 x.f4 (d : Int) = some r) ∧ 1 ≤ r ∧ r ≤ 100000000000000000 + 3000 * (d : Int) ∧ (r ≤ 1000 → smallB x = true ∧ r = (totB x : Int))
theorem few_loop (x : NodeS) (d : Nat) (hd : d < 1000) (ih : ∀ y ∈ x.f4,FewP y d) (hl : x.f4.length ≤ 2000) : ∀ (n j : Nat) (out : Int),j ≤ x.f4.length → x.f4.length - j ≤ n → 1 ≤ out → out ≤ 100000000000000000 + 3000 * ((d + 1 : Nat) : Int) →
  ∃ (k : Nat) (r : Int),(∀ k',k ≤ k' → truffleref14_count.l0 k' ((d + 1 : Nat) : Int) out j x.f0 x.f1 x.f2 x.f3 x.f4 = some r) ∧ out ≤ r ∧ r ≤ 100000000000000000 + 3000 * ((d + 1 : Nat) : Int) ∧ (r ≤ 1000 → (∀ y ∈ x.f4.drop j,smallB y = true) ∧ r = out + (totL (x.f4.drop j) : Int)) := by
 intro n
 induction n with
 | zero =>
  intro j out hj hn h1 h2
  refine ⟨1,out,fun k' hk => ?_,Int.le_refl _,h2,fun _ => ?_⟩
  ·obtain ⟨k',rfl⟩ : ∃ m,k' = m + 1 := ⟨k' - 1,by omega⟩
   simp only [truffleref14_count.l0]
   rw [if_neg (by omega)]
  ·rw [List.drop_of_length_le (by omega)]
   exact ⟨fun y hy => (by cases hy),by simp [totL]⟩
 | succ n ihn =>
  intro j out hj hn h1 h2
  by_cases hlt : j < x.f4.length
  ·by_cases ho : out ≤ 2000
   ·obtain ⟨k1,t,q1,q2,q3,q4⟩ := ih x.f4[j] (List.getElem_mem hlt)
    obtain ⟨k2,r,g1,g2,g3,g4⟩ := ihn (j + 1) (out + t) (by omega) (by omega) (by omega) (by omega)
    refine ⟨max k1 k2 + 1,r,fun k' hk => ?_,by omega,g3,fun hr => ?_⟩
    ·obtain ⟨k',rfl⟩ : ∃ m,k' = m + 1 := ⟨k' - 1,by omega⟩
     have c1 : (j : Int) < (x.f4.length : Int) := by omega
     have c2 : (0 : Int) ≤ (j : Int) := by omega
     have c3 := q1 k' (by omega)
     have c4 := g1 k' (by omega)
     have hw1 : wrap64 (out + t) = out + t := wrap_small _ (by omega) (by omega)
     have er : rd_T39 x.f4 (j : Int) = x.f4[j] := by simp [rd_T39,hlt]
     have hw2 : wrap64 ((j : Int) + 1) = ((j + 1 : Nat) : Int) := (wrap_small _ (by clear hw1;omega) (by clear hw1;omega)).trans (by clear hw1;omega)
     have hw3 : wrap64 (((d + 1 : Nat) : Int) - 1) = (d : Int) := (wrap_small _ (by clear hw1 hw2;omega) (by clear hw1 hw2;omega)).trans (by clear hw1 hw2;omega)
     simp only [truffleref14_count.l0]
     rw [if_pos c1,if_pos ho,if_pos c2,er,hw3,c3]
     simp only [Option.bind_some]
     rw [hw1,hw2]
     exact c4
    ·obtain ⟨s1,s2⟩ := g4 hr
     obtain ⟨s3,s4⟩ := q4 (by omega)
     rw [List.drop_eq_getElem_cons hlt,totL]
     refine ⟨fun y hy => ?_,by omega⟩
     rcases List.mem_cons.1 hy with rfl | hy
     ·exact s3
     ·exact s1 y hy
   ·refine ⟨1,out,fun k' hk => ?_,Int.le_refl _,h2,fun hr => by omega⟩
    obtain ⟨k',rfl⟩ : ∃ m,k' = m + 1 := ⟨k' - 1,by omega⟩
    simp only [truffleref14_count.l0]
    rw [if_pos (by omega),if_neg ho]
  ·refine ⟨1,out,fun k' hk => ?_,Int.le_refl _,h2,fun _ => ?_⟩
   ·obtain ⟨k',rfl⟩ : ∃ m,k' = m + 1 := ⟨k' - 1,by omega⟩
    simp only [truffleref14_count.l0]
    rw [if_neg (by omega)]
   ·rw [List.drop_of_length_le (by omega)]
    exact ⟨fun y hy => (by cases hy),by simp [totL]⟩
theorem few_all : ∀ (d : Nat) (x : NodeS),d < 1000 → txtB x → FewP x d := by
 intro d
 induction d with
 | zero =>
  intro x hd ht
  refine ⟨2,100000,fun k' hk => ?_,by omega,by omega,fun h => by omega⟩
  obtain ⟨k',rfl⟩ : ∃ m,k' = m + 2 := ⟨k' - 2,by omega⟩
  simp only [truffleref14_count.f,truffleref14_count.j0]
  rw [if_pos (by omega)]
  rfl
 | succ d ih =>
  intro x hd ht
  by_cases hl : (x.f4.length : Int) > 2000
  ·refine ⟨2,100000,fun k' hk => ?_,by omega,by omega,fun h => by omega⟩
   obtain ⟨k',rfl⟩ : ∃ m,k' = m + 2 := ⟨k' - 2,by omega⟩
   simp only [truffleref14_count.f,truffleref14_count.j0]
   rw [if_neg (by omega),decide_eq_true hl]
   rfl
  ·obtain ⟨kk,t,n,a,l⟩ := x
   rw [txtB] at ht
   obtain ⟨k,r,g1,g2,g3,g4⟩ := few_loop ⟨kk,t,n,a,l⟩ d (by omega) (fun y hy => ih y (by omega) ((txtL_all l).1 ht.2 y hy)) (by show l.length ≤ 2000;have : ¬ (l.length : Int) > 2000 := hl;omega) l.length 0 (1 + ((t.size / 100 : Nat) : Int)) (by omega) (by show l.length - 0 ≤ _;omega) (by omega) (by omega)
   refine ⟨k + 2,r,fun k' hk => ?_,by omega,g3,fun hr => ?_⟩
   ·obtain ⟨k',rfl⟩ : ∃ m,k' = m + 2 := ⟨k' - 2,by omega⟩
    have c1 : ¬ (((d + 1 : Nat) : Int) ≤ 0) := by omega
    have c2 := g1 k' (by omega)
    have hw1 : wrap64 ((t.size : Int) / 100) = ((t.size / 100 : Nat) : Int) := (wrap_small _ (by omega) (by omega)).trans (by omega)
    have hw2 : wrap64 (1 + ((t.size / 100 : Nat) : Int)) = 1 + ((t.size / 100 : Nat) : Int) := wrap_small _ (by clear hw1;omega) (by clear hw1;omega)
    simp only [truffleref14_count.f,truffleref14_count.j0]
    rw [if_neg c1,decide_eq_false hl,hw1,hw2]
    exact c2
   ·obtain ⟨s1,s2⟩ := g4 hr
    simp only [List.drop_zero] at s1 s2
    refine ⟨?_,?_⟩
    ·rw [smallB,Bool.and_eq_true,decide_eq_true_eq,smallL_all,List.all_eq_true]
     refine ⟨?_,s1⟩
     have : ¬ (l.length : Int) > 2000 := hl
     omega
    ·rw [totB];omega
theorem few_told (x : NodeS) (ht : txtB x) : ∃ (k : Nat) (b : Bool),(∀ k',k ≤ k' → truffleref14_Few.f k' x.f0 x.f1 x.f2 x.f3 x.f4 = some b) ∧ (b = true → smallB x = true ∧ totB x ≤ 1000) := by
 obtain ⟨k,r,g1,g2,g3,g4⟩ := few_all 40 x (by omega) ht
 refine ⟨k,decide (r ≤ 1000),fun k' hk => ?_,fun hb => ?_⟩
 ·unfold truffleref14_Few.f
  rw [show (40 : Int) = ((40 : Nat) : Int) from rfl,g1 k' hk]
  rfl
 ·obtain ⟨s1,s2⟩ := g4 (of_decide_eq_true hb)
  exact ⟨s1,by have := of_decide_eq_true hb;omega⟩
theorem tail_len (l : List NodeS) : (Lib.joinTail [32] (l.map textN)).length = (l.map (fun y => (textN y).length + 1)).sum := by
 induction l with
 | nil => rfl
 | cons x r ih =>
  have : Lib.joinTail [32] ((x :: r).map textN) = (32 :: textN x) ++ Lib.joinTail [32] (r.map textN) := by simp [Lib.joinTail]
  rw [this,List.length_append,ih,List.map_cons,List.sum_cons,List.length_cons]
theorem join_le (l : List NodeS) : (Lib.join (l.map textN) [32]).length ≤ (l.map (fun y => (textN y).length + 1)).sum := by
 cases l with
 | nil => simp [Lib.join_nil]
 | cons x r => rw [List.map_cons,Lib.join_cons,List.length_append,tail_len,List.map_cons,List.sum_cons];omega
theorem text_tot : ∀ (N : Nat) (x : NodeS),SizeOf.sizeOf x ≤ N → (textN x).length + 1 ≤ 600 * totB x := by
 intro N
 induction N with
 | zero => intro x hN;obtain ⟨k,t,n,a,l⟩ := x;simp only [S39.mk.sizeOf_spec] at hN;omega
 | succ N ih =>
  intro x hN
  obtain ⟨k,t,n,a,l⟩ := x
  rw [textN,totB]
  have hb : (bl t).length = t.size := bl_length t
  by_cases h2 : k = 2
  ·rw [if_pos h2]
   have := flat_length (bl t)
   unfold quoteL
   simp only [List.length_cons,List.length_append,List.length_nil]
   omega
  ·rw [if_neg h2]
   by_cases h4 : k = 4
   ·rw [if_pos h4,textL_map]
    simp only [List.length_cons,List.length_append,List.length_nil]
    have hj := join_le l
    have hs : (l.map (fun y => (textN y).length + 1)).sum ≤ 600 * totL l := by
     have hz : ∀ y ∈ l,SizeOf.sizeOf y ≤ N := fun y hy => by have := size_in ⟨k,t,n,a,l⟩ y hy;omega
     clear hj hN
     induction l with
     | nil => simp [totL]
     | cons y r ihr =>
      rw [List.map_cons,List.sum_cons,totL]
      have := ih y (hz y (by simp))
      have := ihr (fun z hz' => hz z (by simp [hz']))
      omega
    omega
   ·rw [if_neg h4]
    omega
theorem hexI_at : ∀ k : Fin 16,bt (⟨#[48,49,50,51,52,53,54,55,56,57,97,98,99,100,101,102]⟩ : ByteArray) (k.val : Int) = ((hexB k.val).toNat : Int) := by decide
theorem nums_app (a b : List UInt8) : numsOf a ++ numsOf b = numsOf (a ++ b) := by simp [numsOf]
theorem nums_len (a : List UInt8) : (numsOf a).length = a.length := by simp [numsOf]
theorem quote_l0 (s : ByteArray) (hs : s.size ≤ 1000000) : ∀ d k i : Nat,i ≤ s.size → s.size - i ≤ d → 2 * d + 2 < k →
  truffleref06_Quote.l0 k s (numsOf (qAcc s i)) ⟨#[48,49,50,51,52,53,54,55,56,57,97,98,99,100,101,102]⟩ i = some ⟨(quoteL (bl s)).toArray⟩ := by
 have hend : ∀ k,truffleref06_Quote.l0 (k + 1) s (numsOf (qAcc s s.size)) ⟨#[48,49,50,51,52,53,54,55,56,57,97,98,99,100,101,102]⟩ (s.size : Int) = some ⟨(quoteL (bl s)).toArray⟩ := by
  intro k
  have hl := qAcc_length s s.size (Nat.le_refl _)
  have e : qAcc s s.size ++ [34] = quoteL (bl s) := by unfold qAcc quoteL;rw [List.take_of_length_le (by simp)];rfl
  rw [truffleref06_Quote.l0,if_neg (by omega),if_pos (by rw [nums_len];omega),show ([34] : List Int) = numsOf [34] from rfl,nums_app,e,strOf_nums]
 intro d
 induction d with
 | zero =>
  intro k i hi hd hk
  obtain ⟨k,rfl⟩ : ∃ m,k = m + 1 := ⟨k - 1,by omega⟩
  obtain rfl : i = s.size := by omega
  exact hend k
 | succ d ih =>
  intro k i hi hd hk
  obtain ⟨k,rfl⟩ : ∃ m,k = m + 2 := ⟨k - 2,by omega⟩
  by_cases hlt : i < s.size
  ·have hw : wrap64 ((i : Int) + 1) = ((i + 1 : Nat) : Int) := by rw [wrap_small _ (by omega) (by omega)];omega
   have hl := qAcc_length s i hi
   have hq := qAcc_succ s i hlt
   have hn0 := ih k (i + 1) (by omega) (by omega) (by omega)
   have hn1 := ih (k + 1) (i + 1) (by omega) (by omega) (by omega)
   have h4 := quote1_length s[i]
   have hbl : ∀ l : List UInt8,l = quote1 s[i] → (numsOf (qAcc s i)).length + (numsOf l).length < 140737488355328 := by
    intro l h;rw [h,nums_len,nums_len];omega
   have hc := s[i].toNat_lt
   rw [hq] at hn0 hn1
   rw [truffleref06_Quote.l0,if_pos (by omega),if_pos (by omega),bt_nat s i hlt,hw]
   have hqn := quote1_nat s[i]
   generalize hcc : s[i] = c at *
   by_cases h10 : c.toNat = 10
   ·have e : quote1 c = [92,110] := by rw [hqn,if_neg (by omega),if_pos h10]
    rw [if_pos (by omega),show ([92,110] : List Int) = numsOf [92,110] from rfl]
    simp only [Option.bind_some]
    rw [if_pos (hbl _ e.symm),nums_app,← e,hn1]
   ·rw [if_neg (by omega)]
    by_cases hb : c.toNat < 32 ∨ 126 < c.toNat
    ·have e : quote1 c = [92,120,hexB (c.toNat / 16),hexB (c.toNat % 16)] := by rw [hqn,if_neg (by omega),if_neg h10,if_pos hb]
     have hj : truffleref06_Quote.j1 (k + 1) s (numsOf (qAcc s i)) ⟨#[48,49,50,51,52,53,54,55,56,57,97,98,99,100,101,102]⟩ (i : Int) (c.toNat : Int) true = some ⟨(quoteL (bl s)).toArray⟩ := by
      have d1 : Int.tdiv (c.toNat : Int) 16 % 256 = ((c.toNat / 16 : Nat) : Int) := by rw [Int.tdiv_eq_ediv_of_nonneg (by omega)];omega
      have d2 : Int.tmod (c.toNat : Int) 16 = ((c.toNat % 16 : Nat) : Int) := by rw [Int.tmod_eq_emod_of_nonneg (by omega)];omega
      have z : (((⟨#[48,49,50,51,52,53,54,55,56,57,97,98,99,100,101,102]⟩ : ByteArray).size : Nat) : Int) = 16 := rfl
      have x1 := hexI_at ⟨c.toNat / 16,by omega⟩
      have x2 := hexI_at ⟨c.toNat % 16,by omega⟩
      simp only at x1 x2
      rw [truffleref06_Quote.j1,if_pos rfl,d1,d2,z,if_pos (by omega),if_pos (by omega),if_pos (by omega),if_pos (by omega),x1,x2,hw]
      rw [show ([92,120,((hexB (c.toNat / 16)).toNat : Int),((hexB (c.toNat % 16)).toNat : Int)] : List Int) = numsOf [92,120,hexB (c.toNat / 16),hexB (c.toNat % 16)] from rfl]
      simp only [Option.bind_some]
      rw [if_pos (hbl _ e.symm),nums_app,← e,hn0]
     by_cases h32 : c.toNat < 32
     ·rw [if_pos (by omega),hj]
     ·rw [if_neg (by omega),decide_eq_true (by omega),hj]
    ·rw [if_neg (by omega),decide_eq_false (by omega),truffleref06_Quote.j1,if_neg (by decide),hw]
     by_cases h34 : c.toNat = 34
     ·have e : quote1 c = [92,c] := by rw [hqn,if_pos (.inl h34)]
      rw [if_pos (by omega),show ([92,(c.toNat : Int)] : List Int) = numsOf [92,c] from rfl]
      simp only [Option.bind_some]
      rw [if_pos (hbl _ e.symm),nums_app,← e,hn0]
     ·rw [if_neg (by omega)]
      by_cases h92 : c.toNat = 92
      ·have e : quote1 c = [92,c] := by rw [hqn,if_pos (.inr h92)]
       rw [if_pos (by omega),show ([92,(c.toNat : Int)] : List Int) = numsOf [92,c] from rfl]
       simp only [Option.bind_some]
       rw [if_pos (hbl _ e.symm),nums_app,← e,hn0]
      ·have e : quote1 c = [c] := by rw [hqn,if_neg (by omega),if_neg h10,if_neg hb]
       rw [if_neg (by omega),if_pos (by rw [nums_len];omega),show ([(c.toNat : Int)] : List Int) = numsOf [c] from rfl,nums_app,← e,hn0]
  ·obtain rfl : i = s.size := by omega
   exact hend (k + 1)
theorem quote_ref (s : ByteArray) (hs : s.size ≤ 1000000) (K : Nat) (hK : 2 * s.size + 10 < K) : truffleref06_Quote.f K s = some ⟨(quoteL (bl s)).toArray⟩ := by
 unfold truffleref06_Quote.f
 exact quote_l0 s hs s.size K 0 (by omega) (by omega) (by omega)
def Ev {α : Type} (f : Nat → Option α) (r : α) : Prop := ∃ K,∀ k,K ≤ k → f k = some r
theorem succ_of {K k : Nat} (h : K + 1 ≤ k) : ∃ m,k = m + 1 ∧ K ≤ m := ⟨k - 1,by omega,by omega⟩
theorem succ_of2 {K k : Nat} (h : K + 2 ≤ k) : ∃ m,k = m + 2 ∧ K ≤ m := ⟨k - 2,by omega,by omega⟩
theorem wrap_succ (j : Nat) (h : j ≤ 1000000) : wrap64 ((j : Int) + 1) = ((j + 1 : Nat) : Int) := (wrap_small _ (by omega) (by omega)).trans (by omega)
theorem rd_node (l : List NodeS) (j : Nat) (h : j < l.length) : rd_T39 l (j : Int) = l[j] := by simp [rd_T39,h]
mutual
/-- What 'few' leaves of a node: no list,no text too long. -/
def fitB : NodeS → Prop
 | ⟨_,t,_,_,l⟩ => t.size ≤ 1000000 ∧ l.length ≤ 1000000 ∧ fitL l
def fitL : List NodeS → Prop
 | [] => True
 | x :: r => fitB x ∧ fitL r
end
theorem fitL_all (l : List NodeS) : fitL l ↔ ∀ x ∈ l,fitB x := by
 induction l with
 | nil => simp [fitL]
 | cons x r ih => rw [fitL,ih];simp
theorem tot_pos (x : NodeS) : 1 ≤ totB x := by
 obtain ⟨k,t,n,a,l⟩ := x
 rw [totB];omega
theorem totL_le (l : List NodeS) : l.length ≤ totL l ∧ ∀ y ∈ l,totB y ≤ totL l := by
 induction l with
 | nil => simp [totL]
 | cons x r ih =>
  rw [totL,List.length_cons]
  have := tot_pos x
  refine ⟨by omega,fun y hy => ?_⟩
  rcases List.mem_cons.1 hy with rfl | hy
  ·omega
  ·have := ih.2 y hy;omega
theorem fit_few : ∀ (N : Nat) (x : NodeS),SizeOf.sizeOf x ≤ N → totB x ≤ 1000 → fitB x := by
 intro N
 induction N with
 | zero => intro x hN;obtain ⟨k,t,n,a,l⟩ := x;simp only [S39.mk.sizeOf_spec] at hN;omega
 | succ N ih =>
  intro x hN hx
  obtain ⟨k,t,n,a,l⟩ := x
  rw [totB] at hx
  have := totL_le l
  exact ⟨by omega,by omega,(fitL_all l).2 fun y hy => ih y (by have := size_in ⟨k,t,n,a,l⟩ y hy;omega) (by have := this.2 y hy;omega)⟩
theorem may_loop (x : NodeS) (d : Nat) (hd : d < 16) (hl : x.f4.length ≤ 1000000) (ih : ∀ y ∈ x.f4,Ev (fun k => truffleref14_may.f k y.f0 y.f1 y.f2 y.f3 y.f4 ((d + 1 : Nat) : Int)) (mayB y ((d + 1 : Nat) : Int))) : ∀ (n j : Nat),j ≤ x.f4.length → x.f4.length - j ≤ n →
  Ev (fun k => truffleref14_may.l0 k (d : Int) j x.f0 x.f1 x.f2 x.f3 x.f4) (mayL (x.f4.drop j) ((d + 1 : Nat) : Int)) := by
 have hend : ∀ j : Nat,j = x.f4.length → Ev (fun k => truffleref14_may.l0 k (d : Int) j x.f0 x.f1 x.f2 x.f3 x.f4) (mayL (x.f4.drop j) ((d + 1 : Nat) : Int)) := by
  intro j hj
  refine ⟨1,fun k hk => ?_⟩
  obtain ⟨m,rfl,_⟩ := succ_of hk
  have c0 : ¬ ((j : Int) < (x.f4.length : Int)) := by omega
  simp only [truffleref14_may.l0]
  rw [if_neg c0,List.drop_of_length_le (by omega),mayL]
 intro n
 induction n with
 | zero => intro j hj hn;exact hend j (by omega)
 | succ n ihn =>
  intro j hj hn
  by_cases hlt : j < x.f4.length
  ·obtain ⟨K1,h1⟩ := ih x.f4[j] (List.getElem_mem hlt)
   obtain ⟨K2,h2⟩ := ihn (j + 1) (by omega) (by omega)
   refine ⟨max K1 K2 + 1,fun k hk => ?_⟩
   obtain ⟨m,rfl,hm⟩ := succ_of hk
   have c0 : (j : Int) < (x.f4.length : Int) := by omega
   have c1 : (0 : Int) ≤ (j : Int) := by omega
   have q1 := h1 m (by omega)
   have q2 := h2 m (by omega)
   simp only at q1 q2
   simp only [truffleref14_may.l0]
   rw [if_pos c0,if_pos c1,rd_node _ j hlt,wrap_succ d (by omega),q1]
   simp only [Option.bind_some]
   rw [List.drop_eq_getElem_cons hlt,mayL]
   cases hb : mayB x.f4[j] ((d + 1 : Nat) : Int) with
   | false => rfl
   | true =>
    rw [if_pos rfl,wrap_succ j (by omega),q2]
    rfl
  ·exact hend j (by omega)
theorem may_ref : ∀ (N : Nat) (x : NodeS) (d : Nat),SizeOf.sizeOf x ≤ N → fitB x → d ≤ 16 → Ev (fun k => truffleref14_may.f k x.f0 x.f1 x.f2 x.f3 x.f4 (d : Int)) (mayB x (d : Int)) := by
 intro N
 induction N with
 | zero => intro x d hN;obtain ⟨k,t,n,a,l⟩ := x;simp only [S39.mk.sizeOf_spec] at hN;omega
 | succ N ih =>
  intro x d hN hf hd
  obtain ⟨kd,t,n,a,l⟩ := x
  rw [fitB] at hf
  obtain ⟨hf1,hf2,hf3⟩ := hf
  by_cases h4 : kd = 4
  ·subst h4
   rw [mayB,if_neg (by decide),if_neg (by decide),if_neg (by decide),if_pos rfl]
   by_cases h16 : d < 16
   ·obtain ⟨K,h1⟩ := may_loop ⟨4,t,n,a,l⟩ d h16 hf2 (fun y hy => ih y (d + 1) (by have := size_in ⟨4,t,n,a,l⟩ y hy;omega) ((fitL_all l).1 hf3 y hy) (by omega)) l.length 0 (by omega) (by show l.length - 0 ≤ _;omega)
    refine ⟨K + 3,fun k hk => ?_⟩
    obtain ⟨k,rfl,hk⟩ := succ_of2 hk
    have q1 := h1 k (by omega)
    have c0 : ¬ ((d : Int) ≥ 16) := by omega
    have c1 : (d : Int) < 16 := by omega
    simp only [List.drop_zero] at q1
    rw [wrap_succ d (by omega)]
    simp only [truffleref14_may.f,truffleref14_may.j0]
    rw [if_pos trivial,if_neg c0]
    by_cases ht : t.toList = []
    ·rw [if_pos ht,ht]
     by_cases hn : n = 0
     ·subst hn
      rw [if_neg (by decide)]
      refine q1.trans ?_
      simp [c1]
     ·rw [if_pos (bne_iff_ne.2 hn)]
      simp [hn]
    ·rw [if_neg ht,if_pos trivial]
     have : (t.toList == []) = false := beq_eq_false_iff_ne.2 ht
     simp [this]
   ·refine ⟨2,fun k hk => ?_⟩
    obtain ⟨k,rfl,hk⟩ := succ_of2 hk
    have c0 : (d : Int) ≥ 16 := by omega
    have c1 : ¬ ((d : Int) < 16) := by omega
    simp only [truffleref14_may.f,truffleref14_may.j0]
    rw [if_pos trivial,if_pos c0,if_pos trivial]
    simp [c1]
  ·refine ⟨30 * t.size + 3003,fun k hk => ?_⟩
   obtain ⟨k,rfl,hk⟩ := succ_of2 hk
   have ha := all_ref t k hf1 (by omega)
   rw [mayB]
   simp only [truffleref14_may.f,truffleref14_may.j2]
   rw [if_neg h4]
   by_cases hlow : kd < 0
   ·rw [if_pos hlow,if_pos trivial,if_neg (by omega),if_neg (by omega),if_neg (by omega),if_neg h4]
   ·rw [if_neg hlow]
    by_cases hup : kd > 4
    ·rw [if_pos hup,if_pos trivial,if_neg (by omega),if_neg (by omega),if_neg (by omega),if_neg h4]
    ·rw [if_neg hup]
     by_cases hz : (l.length : Int) > 0
     ·have hz2 : decide (l.length = 0) = false := decide_eq_false (by omega)
      rw [if_pos (decide_eq_true hz),hz2]
      simp [h4]
     ·have hz2 : decide (l.length = 0) = true := decide_eq_true (by omega)
      have hz3 : ¬ (decide ((l.length : Int) > 0) = true) := by rw [decide_eq_false hz];decide
      rw [if_neg hz3,hz2]
      by_cases h2 : kd = 2
      ·subst h2
       rw [if_pos rfl,if_neg (show ¬ ((2 : Int) = 0 ∨ (2 : Int) = 1) by decide),if_pos rfl]
       by_cases hn : n = 0
       ·simp [hn]
       ·simp [hn]
      ·rw [if_neg h2]
       by_cases h3 : kd = 3
       ·subst h3
        rw [if_pos rfl,if_neg (show ¬ ((3 : Int) = 0 ∨ (3 : Int) = 1) by decide),if_neg (show ¬ ((3 : Int) = 2) by decide),if_pos rfl]
        by_cases hn : n = 0
        ·simp [hn]
        ·simp [hn]
       ·have h01 : kd = 0 ∨ kd = 1 := by omega
        rw [if_neg h3,if_pos h01,ha]
        unfold aloneB sexp_alone.f token_All.f
        simp only [Option.bind_some,Bool.true_and]
        by_cases e0 : (allF t).2.2 = 0
        ·rw [if_pos e0,if_pos e0]
         by_cases e1 : ((allF t).1.length : Int) = 1
         ·have e5 : (0 : Int) < ((allF t).1.length : Int) := by omega
          rw [if_pos e1,if_pos e1,if_pos e5,if_pos e5,Option.getD_some]
          by_cases e2 : (rd_T29 (allF t).1 0).f0 = kd
          ·rw [if_pos e2]
           by_cases e3 : (rd_T29 (allF t).1 0).f1.toList = t.toList
           ·rw [if_pos e3]
            by_cases e4 : (rd_T29 (allF t).1 0).f2 = n
            ·rw [if_pos e4];simp [e2,e3,e4]
            ·rw [if_neg e4];simp [e4]
           ·rw [if_neg e3];simp [e3]
          ·rw [if_neg e2];simp [e2]
         ·rw [if_neg e1,if_neg e1];rfl
        ·rw [if_neg e0,if_neg e0];rfl
theorem textX_loop (x : NodeS) (hl : x.f4.length ≤ 1000000) (ih : ∀ y ∈ x.f4,Ev (fun k => truffleref14_text.f k y.f0 y.f1 y.f2 y.f3 y.f4) (textS y)) : ∀ (n j : Nat) (out : List UInt8),j ≤ x.f4.length → x.f4.length - j ≤ n → out.length + (Lib.joinTail [32] ((x.f4.drop j).map textN)).length + 10 ≤ 9000000000000000000 → 0 < j →
  Ev (fun k => truffleref14_text.l0 k ⟨out.toArray⟩ j x.f0 x.f1 x.f2 x.f3 x.f4) ⟨(out ++ Lib.joinTail [32] ((x.f4.drop j).map textN) ++ [41]).toArray⟩ := by
 have hend : ∀ (j : Nat) (out : List UInt8),j = x.f4.length → out.length + 10 ≤ 9000000000000000000 → Ev (fun k => truffleref14_text.l0 k ⟨out.toArray⟩ j x.f0 x.f1 x.f2 x.f3 x.f4) ⟨(out ++ Lib.joinTail [32] ((x.f4.drop j).map textN) ++ [41]).toArray⟩ := by
  intro j out hj ho
  refine ⟨1,fun k hk => ?_⟩
  obtain ⟨m,rfl,_⟩ := succ_of hk
  have c0 : ¬ ((j : Int) < (x.f4.length : Int)) := by omega
  have z : (⟨out.toArray⟩ : ByteArray).size = out.length := by rw [← bl_length,blMk out]
  simp only [truffleref14_text.l0]
  rw [if_neg c0,if_pos (by rw [z];omega),List.drop_of_length_le (by omega),show (⟨#[41]⟩ : ByteArray) = ⟨([41] : List UInt8).toArray⟩ from rfl,mk_append]
  simp [Lib.joinTail]
 intro n
 induction n with
 | zero =>
  intro j out hj hn ho h0
  have hjl : j = x.f4.length := by omega
  exact hend j out hjl (by omega)
 | succ n ihn =>
  intro j out hj hn ho h0
  by_cases hlt : j < x.f4.length
  ·have hd : (x.f4.drop j).map textN = textN x.f4[j] :: (x.f4.drop (j + 1)).map textN := by rw [List.drop_eq_getElem_cons hlt,List.map_cons]
   have hjt : Lib.joinTail [32] ((x.f4.drop j).map textN) = 32 :: (textN x.f4[j] ++ Lib.joinTail [32] ((x.f4.drop (j + 1)).map textN)) := by rw [hd];simp [Lib.joinTail]
   rw [hjt] at ho ⊢
   simp only [List.length_cons,List.length_append] at ho
   obtain ⟨K1,h1⟩ := ih x.f4[j] (List.getElem_mem hlt)
   obtain ⟨K2,h2⟩ := ihn (j + 1) (out ++ 32 :: textN x.f4[j]) (by omega) (by omega) (by simp only [List.length_append,List.length_cons];omega) (by omega)
   refine ⟨max K1 K2 + 1,fun k hk => ?_⟩
   obtain ⟨m,rfl,hm⟩ := succ_of hk
   have c0 : (j : Int) < (x.f4.length : Int) := by omega
   have c1 : (0 : Int) ≤ (j : Int) := by omega
   have c2 : (j : Int) > 0 := by omega
   have q1 := h1 m (by omega)
   have q2 := h2 m (by omega)
   simp only at q1 q2
   have z : (⟨out.toArray⟩ : ByteArray).size = out.length := by rw [← bl_length,blMk out]
   have z2 : (⟨(out ++ [32]).toArray⟩ : ByteArray).size = out.length + 1 := by rw [← bl_length,blMk (out ++ [32]),List.length_append];rfl
   have z3 : (textS x.f4[j]).size = (textN x.f4[j]).length := textS_size _
   have c3 : (⟨out.toArray⟩ : ByteArray).size + 1 ≤ 9223372036854775807 := by rw [z];omega
   have c4 : (⟨(out ++ [32]).toArray⟩ : ByteArray).size + (textS x.f4[j]).size ≤ 9223372036854775807 := by rw [z2,z3];omega
   simp only [truffleref14_text.l0]
   rw [if_pos c0,if_pos c2,if_pos c3,if_pos c1,rd_node _ j hlt,q1]
   simp only [Option.bind_some]
   rw [show (⟨#[32]⟩ : ByteArray) = ⟨([32] : List UInt8).toArray⟩ from rfl,mk_append,if_pos c4,wrap_succ j (by omega)]
   unfold textS
   rw [mk_append]
   have e : out ++ [32] ++ textN x.f4[j] = out ++ 32 :: textN x.f4[j] := by simp
   rw [e,q2]
   simp
  ·exact hend j out (by omega) (by omega)
theorem textX_ref : ∀ (N : Nat) (x : NodeS),SizeOf.sizeOf x ≤ N → fitB x → (textN x).length ≤ 1000000000000 → Ev (fun k => truffleref14_text.f k x.f0 x.f1 x.f2 x.f3 x.f4) (textS x) := by
 intro N
 induction N with
 | zero => intro x hN;obtain ⟨k,t,n,a,l⟩ := x;simp only [S39.mk.sizeOf_spec] at hN;omega
 | succ N ih =>
  intro x hN hf ht
  obtain ⟨kd,t,n,a,l⟩ := x
  rw [fitB] at hf
  obtain ⟨hf1,hf2,hf3⟩ := hf
  by_cases h2 : kd = 2
  ·subst h2
   refine ⟨2 * t.size + 12,fun k hk => ?_⟩
   obtain ⟨k,rfl,hk⟩ := succ_of hk
   have hq := quote_ref t hf1 k (by omega)
   simp only [truffleref14_text.f]
   rw [if_pos trivial,hq]
   simp only [Option.bind_some,textS]
   rw [textN,if_pos rfl]
  ·by_cases h4 : kd = 4
   ·subst h4
    have htx : textN ⟨4,t,n,a,l⟩ = 40 :: (Lib.join (l.map textN) [32] ++ [41]) := by rw [textN,if_neg h2,if_pos rfl,textL_map]
    have hch : ∀ y ∈ l,Ev (fun k => truffleref14_text.f k y.f0 y.f1 y.f2 y.f3 y.f4) (textS y) := fun y hy => ih y (by have := size_in ⟨4,t,n,a,l⟩ y hy;omega) ((fitL_all l).1 hf3 y hy) (by
     have := (text_child l y hy).1
     rw [textL_map] at this
     rw [htx] at ht
     simp only [List.length_cons,List.length_append] at ht
     omega)
    rw [htx] at ht
    simp only [List.length_cons,List.length_append] at ht
    have hgoal : Ev (fun k => truffleref14_text.l0 k ⟨#[40]⟩ 0 4 t n a l) (textS ⟨4,t,n,a,l⟩) := by
     cases l with
     | nil =>
      refine ⟨1,fun k hk => ?_⟩
      obtain ⟨m,rfl,_⟩ := succ_of hk
      simp only [truffleref14_text.l0]
      rw [if_neg (by decide),if_pos (by decide)]
      unfold textS
      rw [htx]
      rfl
     | cons y r =>
      rw [List.map_cons,Lib.join_cons,List.length_append] at ht
      obtain ⟨K1,h1⟩ := hch y (by simp)
      obtain ⟨K2,h2⟩ := textX_loop ⟨4,t,n,a,y :: r⟩ hf2 hch r.length 1 (40 :: textN y) (by show 1 ≤ (y :: r).length;simp) (by show (y :: r).length - 1 ≤ _;simp) (by
       show (40 :: textN y).length + (Lib.joinTail [32] (((y :: r).drop 1).map textN)).length + 10 ≤ _
       simp only [List.length_cons,List.drop_succ_cons,List.drop_zero];omega) (by omega)
      refine ⟨max K1 K2 + 1,fun k hk => ?_⟩
      obtain ⟨m,rfl,hm⟩ := succ_of hk
      have q1 := h1 m (by omega)
      have q2 := h2 m (by omega)
      simp only [List.drop_succ_cons,List.drop_zero] at q1 q2
      have z3 : (textS y).size = (textN y).length := textS_size _
      have c4 : (⟨#[40]⟩ : ByteArray).size + (textS y).size ≤ 9223372036854775807 := by rw [z3];show 1 + _ ≤ _;omega
      have c0 : (0 : Int) < ((y :: r).length : Int) := by simp
      have er : rd_T39 (y :: r) 0 = y := rfl
      simp only [truffleref14_text.l0]
      rw [if_pos c0,if_neg (by decide),if_pos (by decide),er,q1]
      simp only [Option.bind_some]
      rw [if_pos c4,show wrap64 ((0 : Int) + 1) = ((1 : Nat) : Int) from wrap_small _ (by decide) (by decide)]
      have e : (⟨#[40]⟩ : ByteArray) ++ textS y = ⟨(40 :: textN y).toArray⟩ := by
       unfold textS
       rw [show (⟨#[40]⟩ : ByteArray) = ⟨([40] : List UInt8).toArray⟩ from rfl,mk_append]
       rfl
      rw [e]
      refine q2.trans ?_
      unfold textS
      rw [htx,List.map_cons,Lib.join_cons]
      simp
    obtain ⟨K,h⟩ := hgoal
    refine ⟨K + 1,fun k hk => ?_⟩
    obtain ⟨k,rfl,hk⟩ := succ_of hk
    simp only [truffleref14_text.f]
    rw [if_neg (by decide),if_pos trivial]
    exact h k (by omega)
   ·refine ⟨1,fun k hk => ?_⟩
    obtain ⟨k,rfl,hk⟩ := succ_of hk
    simp only [truffleref14_text.f]
    rw [if_neg h2,if_neg h4]
    unfold textS
    rw [textN,if_neg h2,if_neg h4,mk_bl]
mutual
/-- The same;or wholly,with where they begin. -/
def sameW (b : Bool) : NodeS → NodeS → Bool
 | ⟨k,t,n,a,l⟩,⟨k',t',n',a',l'⟩ => if k = k' then (if t.toList = t'.toList then (if n = n' then (if b = true ∧ a ≠ a' then false else sameWL b l l') else false) else false) else false
def sameWL (b : Bool) : List NodeS → List NodeS → Bool
 | [],[] => true
 | x :: r,y :: s => sameW b x y && sameWL b r s
 | [],_ :: _ => false
 | _ :: _,[] => false
end
theorem sameWL_len (b : Bool) (l : List NodeS) : ∀ m,l.length ≠ m.length → sameWL b l m = false := by
 induction l with
 | nil => intro m h;cases m with
  | nil => exact absurd rfl h
  | cons => rfl
 | cons x r ih => intro m h;cases m with
  | nil => rfl
  | cons y s => rw [sameWL,ih s (by simpa using h),Bool.and_false]
theorem sameW_false : ∀ (N : Nat) (x y : NodeS),SizeOf.sizeOf x ≤ N → sameW false x y = sameB x y := by
 intro N
 induction N with
 | zero => intro x y hN;obtain ⟨k,t,n,a,l⟩ := x;simp only [S39.mk.sizeOf_spec] at hN;omega
 | succ N ih =>
  intro x y hN
  obtain ⟨k,t,n,a,l⟩ := x
  obtain ⟨k',t',n',a',l'⟩ := y
  have hl : ∀ (l l' : List NodeS),(∀ z ∈ l,SizeOf.sizeOf z ≤ N) → sameWL false l l' = sameL l l' := by
   intro l
   induction l with
   | nil => intro l' _;cases l' <;> rfl
   | cons z r ihr =>
    intro l' hz
    cases l' with
    | nil => rfl
    | cons u s => rw [sameWL,sameL,ih z u (hz z (by simp)),ihr s (fun v hv => hz v (by simp [hv]))]
  rw [sameW,sameB,hl l l' (fun z hz => by have := size_in ⟨k,t,n,a,l⟩ z hz;omega)]
  simp
theorem sameW_refl (b : Bool) : ∀ (N : Nat) (x : NodeS),SizeOf.sizeOf x ≤ N → sameW b x x = true := by
 intro N
 induction N with
 | zero => intro x hN;obtain ⟨k,t,n,a,l⟩ := x;simp only [S39.mk.sizeOf_spec] at hN;omega
 | succ N ih =>
  intro x hN
  obtain ⟨k,t,n,a,l⟩ := x
  have hl : ∀ (l : List NodeS),(∀ z ∈ l,SizeOf.sizeOf z ≤ N) → sameWL b l l = true := by
   intro l
   induction l with
   | nil => intro _;rfl
   | cons z r ihr =>
    intro hz
    rw [sameWL,ih z (hz z (by simp)),ihr (fun v hv => hz v (by simp [hv]))]
    rfl
  rw [sameW,hl l (fun z hz => by have := size_in ⟨k,t,n,a,l⟩ z hz;omega)]
  simp
mutual
/-- No list of it is too long. -/
def fitLenB : NodeS → Prop
 | ⟨_,_,_,_,l⟩ => l.length ≤ 1000000 ∧ fitLenL l
def fitLenL : List NodeS → Prop
 | [] => True
 | x :: r => fitLenB x ∧ fitLenL r
end
theorem fitLenL_all (l : List NodeS) : fitLenL l ↔ ∀ x ∈ l,fitLenB x := by
 induction l with
 | nil => simp [fitLenL]
 | cons x r ih => rw [fitLenL,ih];simp
theorem sameR_loop (b : Bool) (x y : NodeS) (hx : x.f4.length ≤ 1000000) (hxy : x.f4.length = y.f4.length) (ih : ∀ u ∈ x.f4,∀ v,Ev (fun k => truffleref14_Same.f k u.f0 u.f1 u.f2 u.f3 u.f4 v.f0 v.f1 v.f2 v.f3 v.f4 b) (sameW b u v)) : ∀ (n j : Nat),j ≤ x.f4.length → x.f4.length - j ≤ n →
  Ev (fun k => truffleref14_Same.l0 k b j x.f0 x.f1 x.f2 x.f3 x.f4 y.f0 y.f1 y.f2 y.f3 y.f4) (sameWL b (x.f4.drop j) (y.f4.drop j)) := by
 have hend : ∀ j : Nat,j = x.f4.length → Ev (fun k => truffleref14_Same.l0 k b j x.f0 x.f1 x.f2 x.f3 x.f4 y.f0 y.f1 y.f2 y.f3 y.f4) (sameWL b (x.f4.drop j) (y.f4.drop j)) := by
  intro j hj
  refine ⟨1,fun k hk => ?_⟩
  obtain ⟨m,rfl,_⟩ := succ_of hk
  have c0 : ¬ ((j : Int) < (x.f4.length : Int)) := by omega
  simp only [truffleref14_Same.l0]
  rw [if_neg c0,List.drop_of_length_le (by omega),List.drop_of_length_le (by omega),sameWL]
 intro n
 induction n with
 | zero => intro j hj hn;exact hend j (by omega)
 | succ n ihn =>
  intro j hj hn
  by_cases hlt : j < x.f4.length
  ·have hlt2 : j < y.f4.length := by omega
   obtain ⟨K1,h1⟩ := ih x.f4[j] (List.getElem_mem hlt) y.f4[j]
   obtain ⟨K2,h2⟩ := ihn (j + 1) (by omega) (by omega)
   refine ⟨max K1 K2 + 1,fun k hk => ?_⟩
   obtain ⟨m,rfl,hm⟩ := succ_of hk
   have c0 : (j : Int) < (x.f4.length : Int) := by omega
   have c1 : (0 : Int) ≤ (j : Int) := by omega
   have c2 : (j : Int) < (y.f4.length : Int) := by omega
   have q1 := h1 m (by omega)
   have q2 := h2 m (by omega)
   simp only at q1 q2
   simp only [truffleref14_Same.l0]
   rw [if_pos c0,if_pos c1,if_pos c2,rd_node _ j hlt,rd_node _ j hlt2,q1]
   simp only [Option.bind_some]
   rw [List.drop_eq_getElem_cons hlt,List.drop_eq_getElem_cons hlt2,sameWL]
   cases hb : sameW b x.f4[j] y.f4[j] with
   | false => rfl
   | true =>
    rw [if_pos rfl,wrap_succ j (by omega),q2]
    rfl
  ·exact hend j (by omega)
theorem same_ref : ∀ (N : Nat) (b : Bool) (x y : NodeS),SizeOf.sizeOf x ≤ N → fitLenB x → Ev (fun k => truffleref14_Same.f k x.f0 x.f1 x.f2 x.f3 x.f4 y.f0 y.f1 y.f2 y.f3 y.f4 b) (sameW b x y) := by
 intro N b
 induction N with
 | zero => intro x y hN;obtain ⟨k,t,n,a,l⟩ := x;simp only [S39.mk.sizeOf_spec] at hN;omega
 | succ N ih =>
  intro x y hN hf
  obtain ⟨k0,t,n,a,l⟩ := x
  obtain ⟨k1,t',n',a',l'⟩ := y
  rw [fitLenB] at hf
  have hno : ∀ (v : Bool),v = false → Ev (fun k => truffleref14_Same.j0 k b true k0 t n a l k1 t' n' a' l') v := by
   rintro v rfl
   refine ⟨1,fun k hk => ?_⟩
   obtain ⟨m,rfl,_⟩ := succ_of hk
   simp only [truffleref14_Same.j0]
   rw [if_pos trivial]
  have key : ∀ (v : Bool),(∃ g : Nat → Option Bool,Ev g v ∧ ∀ k,truffleref14_Same.f (k + 1) k0 t n a l k1 t' n' a' l' b = g k) → Ev (fun k => truffleref14_Same.f k k0 t n a l k1 t' n' a' l' b) v := by
   rintro v ⟨g,⟨K,hg⟩,he⟩
   refine ⟨K + 1,fun k hk => ?_⟩
   obtain ⟨m,rfl,hm⟩ := succ_of hk
   show truffleref14_Same.f (m + 1) k0 t n a l k1 t' n' a' l' b = some v
   rw [he m,hg m hm]
  refine key _ ?_
  rw [sameW]
  by_cases h1 : k0 = k1
  ·rw [if_pos h1]
   by_cases h2 : t.toList = t'.toList
   ·rw [if_pos h2]
    by_cases h3 : n = n'
    ·rw [if_pos h3]
     by_cases h4 : l.length = l'.length
     ·have hl := sameR_loop b ⟨k0,t,n,a,l⟩ ⟨k1,t',n',a',l'⟩ hf.1 h4 (fun u hu v => ih u v (by have := size_in ⟨k0,t,n,a,l⟩ u hu;omega) ((fitLenL_all l).1 hf.2 u hu)) l.length 0 (by omega) (by show l.length - 0 ≤ _;omega)
      simp only [List.drop_zero] at hl
      have hj : Ev (fun k => truffleref14_Same.j0 k b false k0 t n a l k1 t' n' a' l') (sameWL b l l') := by
       obtain ⟨K,h⟩ := hl
       refine ⟨K + 1,fun k hk => ?_⟩
       obtain ⟨m,rfl,hm⟩ := succ_of hk
       simp only [truffleref14_Same.j0]
       rw [if_neg (by decide)]
       exact h m hm
      have c4 : (l.length : Int) = (l'.length : Int) := by omega
      cases b with
      | false =>
       rw [if_neg (by simp)]
       refine ⟨_,hj,fun k => ?_⟩
       simp only [truffleref14_Same.f]
       rw [if_pos h1,if_pos h2,if_pos h3,if_pos c4,if_neg (by decide)]
      | true =>
       by_cases h5 : a = a'
       ·have hne : (a != a') = false := by rw [h5];simp
        rw [if_neg (by simp [h5])]
        refine ⟨_,hj,fun k => ?_⟩
        simp only [truffleref14_Same.f]
        rw [if_pos h1,if_pos h2,if_pos h3,if_pos c4,if_pos trivial,hne]
       ·have hne : (a != a') = true := bne_iff_ne.2 h5
        rw [if_pos ⟨rfl,h5⟩]
        refine ⟨_,hno false rfl,fun k => ?_⟩
        simp only [truffleref14_Same.f]
        rw [if_pos h1,if_pos h2,if_pos h3,if_pos c4,if_pos trivial,hne]
     ·have hz : (if b = true ∧ a ≠ a' then false else sameWL b l l') = false := by rw [sameWL_len b l l' h4];simp
      rw [hz]
      refine ⟨_,hno false rfl,fun k => ?_⟩
      simp only [truffleref14_Same.f]
      rw [if_pos h1,if_pos h2,if_pos h3,if_neg (by omega)]
    ·rw [if_neg h3]
     refine ⟨_,hno false rfl,fun k => ?_⟩
     simp only [truffleref14_Same.f]
     rw [if_pos h1,if_pos h2,if_neg h3]
   ·rw [if_neg h2]
    refine ⟨_,hno false rfl,fun k => ?_⟩
    simp only [truffleref14_Same.f]
    rw [if_pos h1,if_neg h2]
  ·rw [if_neg h1]
   refine ⟨_,hno false rfl,fun k => ?_⟩
   simp only [truffleref14_Same.f]
   rw [if_neg h1]
def NodeR (l : List TokS) (at0 : Nat) (st : List NodeS) (r : Int × ByteArray × Int × Int × List NodeS × Int × Int) : Prop :=
 (∃ next : Nat,r.2.2.2.2.2.2 = 0 ∧ r.2.2.2.2.2.1 = (next : Int) ∧ at0 < next ∧ next ≤ l.length ∧ parseL (l.drop at0) st = parseL (l.drop next) (addTop st ⟨r.1,r.2.1,r.2.2.1,r.2.2.2.1,r.2.2.2.2.1⟩)) ∨
 (∃ next : Nat,(r.2.2.2.2.2.2 = 4 ∨ r.2.2.2.2.2.2 = 2) ∧ r = (0,⟨#[]⟩,0,0,[],(next : Int),r.2.2.2.2.2.2) ∧ next ≤ l.length ∧
  ((∃ h : next < l.length,parseL (l.drop at0) st = .inr (l[next].f3,r.2.2.2.2.2.2)) ∨ (next = l.length ∧ r.2.2.2.2.2.2 = 4 ∧ ∃ st',parseL (l.drop at0) st = .inl st' ∧ (1 < st'.length ∨ (st'.length = 1 ∧ (st'.getD 0 zN).f4.length = 0)))))
theorem rd_tok (l : List TokS) (j : Nat) (h : j < l.length) : rd_T29 l (j : Int) = l[j] := rd_at l j _ (List.getElem?_eq_getElem h)
def NodeP (l : List TokS) (at0 d : Nat) : Prop := ∀ st : List NodeS,st.length = d + 1 → ¬ (st.length = 1 ∧ (topN st).f4.length = 1) → (d = 0 → (st.getD 0 zN).f4.length = 0) → ∃ r,Ev (fun k => truffleref14_node.f k l (at0 : Int) (d : Int)) r ∧ NodeR l at0 st r
theorem is_sign (t : TokS) : (if t.f0 = 3 then some (t.f1.toList == (⟨#[41]⟩ : ByteArray).toList) else some false) = some (decide (doesI t = 2)) := by
 have hb := doesI_bare t
 rw [toList_bl,toList_bl]
 by_cases h3 : t.f0 = 3
 ·rw [if_pos h3]
  show some (bl t.f1 == [41]) = _
  by_cases h46 : bl t.f1 = [46]
  ·rw [if_pos (.inr h46)] at hb
   rw [hb,h46];rfl
  ·rw [if_neg (by rintro (h | h);exact h h3;exact h46 h)] at hb
   by_cases h40 : bl t.f1 = [40]
   ·rw [if_pos h40] at hb
    rw [hb,h40];rfl
   ·rw [if_neg h40] at hb
    by_cases h41 : bl t.f1 = [41]
    ·rw [if_pos h41] at hb
     rw [hb,h41];rfl
    ·rw [if_neg h41] at hb
     rw [hb,beq_eq_false_iff_ne.2 h41];rfl
 ·rw [if_pos (.inl h3)] at hb
  rw [if_neg h3,hb];rfl
theorem is_shut_yes (l : List TokS) (j : Nat) (hj : j < l.length) (h : doesI l[j] = 2) : truffleref14_is.f l (j : Int) ⟨#[41]⟩ = some true := by
 have c0 : (j : Int) < (l.length : Int) := by omega
 have c1 : (0 : Int) ≤ (j : Int) := by omega
 unfold truffleref14_is.f
 rw [if_pos c0,if_pos c1,rd_tok l j hj,is_sign,decide_eq_true h]
theorem is_shut_no (l : List TokS) (j : Nat) (h : ¬ ∃ h : j < l.length,doesI l[j] = 2) : truffleref14_is.f l (j : Int) ⟨#[41]⟩ = some false := by
 unfold truffleref14_is.f
 by_cases hj : j < l.length
 ·have c0 : (j : Int) < (l.length : Int) := by omega
  have c1 : (0 : Int) ≤ (j : Int) := by omega
  rw [if_pos c0,if_pos c1,rd_tok l j hj,is_sign,decide_eq_false (fun h2 => h ⟨hj,h2⟩)]
 ·have c0 : ¬ ((j : Int) < (l.length : Int)) := by omega
  rw [if_neg c0]
theorem node_list (l : List TokS) (hl : l.length ≤ 1000) (d : Nat) (hd : d < 16) (a : Int) : ∀ (m j : Nat) (st : List NodeS) (xs : List NodeS),j ≤ l.length → l.length - j ≤ m → xs.length ≤ j → st.length = d + 1 → (∀ j',j ≤ j' → j' ≤ l.length → ¬ (∃ h : j' < l.length,doesI l[j'] = 2) → NodeP l j' (d + 1)) →
  ∃ r,Ev (fun k => truffleref14_node.l0 k l (d : Int) (j : Int) 4 ⟨#[]⟩ 0 a xs) r ∧
   ((∃ next : Nat,r.2.2.2.2.2.2 = 0 ∧ r.2.2.2.2.2.1 = (next : Int) ∧ j < next ∧ next ≤ l.length ∧ parseL (l.drop j) (st ++ [⟨4,⟨#[]⟩,0,a,xs⟩]) = parseL (l.drop next) (addTop st ⟨r.1,r.2.1,r.2.2.1,r.2.2.2.1,r.2.2.2.2.1⟩)) ∨
    (∃ next : Nat,(r.2.2.2.2.2.2 = 4 ∨ r.2.2.2.2.2.2 = 2) ∧ r = (0,⟨#[]⟩,0,0,[],(next : Int),r.2.2.2.2.2.2) ∧ next ≤ l.length ∧
    ((∃ h : next < l.length,parseL (l.drop j) (st ++ [⟨4,⟨#[]⟩,0,a,xs⟩]) = .inr (l[next].f3,r.2.2.2.2.2.2)) ∨ (next = l.length ∧ r.2.2.2.2.2.2 = 4 ∧ ∃ st',parseL (l.drop j) (st ++ [⟨4,⟨#[]⟩,0,a,xs⟩]) = .inl st' ∧ (1 < st'.length ∨ (st'.length = 1 ∧ (st'.getD 0 zN).f4.length = 0)))))) := by
 intro m
 induction m with
 | zero =>
  intro j st xs hj hm hx hst hP
  have hno : ¬ (∃ h : j < l.length,doesI l[j] = 2) := fun ⟨h,_⟩ => by omega
  obtain ⟨r,⟨K,hK⟩,hr⟩ := hP j (Nat.le_refl _) hj hno (st ++ [⟨4,⟨#[]⟩,0,a,xs⟩]) (by simp [hst]) (not_full st _ (by omega)) (fun h => by omega)
  rcases hr with ⟨next,h1,h2,h3,h4,h5⟩ | ⟨next,h1,h2,h3,h4⟩
  ·omega
  ·refine ⟨r,⟨K + 1,fun k hk => ?_⟩,.inr ⟨next,h1,h2,h3,h4⟩⟩
   obtain ⟨k,rfl,hk⟩ := succ_of hk
   have q := hK k (by omega)
   simp only at q
   have hne : ¬ r.2.2.2.2.2.2 = 0 := by omega
   simp only [truffleref14_node.l0]
   rw [is_shut_no l j hno]
   simp only [Option.bind_some]
   rw [if_neg (by decide),wrap_succ d (by omega),q]
   simp only [Option.bind_some]
   rw [if_neg hne]
   conv => rhs;rw [h2]
   rw [h2]
 | succ m ih =>
  intro j st xs hj hm hx hst hP
  by_cases hsh : ∃ h : j < l.length,doesI l[j] = 2
  ·obtain ⟨hjl,h2⟩ := hsh
   refine ⟨(4,⟨#[]⟩,0,a,xs,((j + 1 : Nat) : Int),0),⟨1,fun k hk => ?_⟩,.inl ⟨j + 1,rfl,rfl,by omega,by omega,?_⟩⟩
   ·obtain ⟨k,rfl,hk⟩ := succ_of hk
    simp only [truffleref14_node.l0]
    rw [is_shut_yes l j hjl h2]
    simp only [Option.bind_some]
    rw [if_pos trivial,wrap_succ j (by omega)]
   ·rw [List.drop_eq_getElem_cons hjl]
    exact parse_shut _ _ st _ h2 (by omega)
  ·obtain ⟨r,⟨K,hK⟩,hr⟩ := hP j (Nat.le_refl _) hj hsh (st ++ [⟨4,⟨#[]⟩,0,a,xs⟩]) (by simp [hst]) (not_full st _ (by omega)) (fun h => by omega)
   rcases hr with ⟨next,h1,h2,h3,h4,h5⟩ | ⟨next,h1,h2,h3,h4⟩
   ·rw [add_snoc] at h5
    obtain ⟨r2,⟨K2,hK2⟩,hr2⟩ := ih next st (xs ++ [⟨r.1,r.2.1,r.2.2.1,r.2.2.2.1,r.2.2.2.2.1⟩]) h4 (by omega) (by rw [List.length_append,List.length_cons,List.length_nil];omega) hst (fun j' g1 g2 g3 => hP j' (by omega) g2 g3)
    refine ⟨r2,⟨max K K2 + 1,fun k hk => ?_⟩,?_⟩
    ·obtain ⟨k,rfl,hk⟩ := succ_of hk
     have q := hK k (by omega)
     have q2 := hK2 k (by omega)
     simp only at q q2
     have hx2 : xs.length < 2199023255552 := by omega
     simp only [truffleref14_node.l0]
     rw [is_shut_no l j hsh]
     simp only [Option.bind_some]
     rw [if_neg (by decide),wrap_succ d (by omega),q]
     simp only [Option.bind_some]
     rw [if_pos h1,if_pos hx2,h2]
     exact q2
    ·rcases hr2 with ⟨nx,g1,g2,g3,g4,g5⟩ | ⟨nx,g1,g2,g3,g4⟩
     ·exact .inl ⟨nx,g1,g2,by omega,g4,h5.trans g5⟩
     ·refine .inr ⟨nx,g1,g2,g3,?_⟩
      rcases g4 with ⟨z,g4⟩ | ⟨z,z2,st',g4,z3⟩
      ·exact .inl ⟨z,h5.trans g4⟩
      ·exact .inr ⟨z,z2,st',h5.trans g4,z3⟩
   ·refine ⟨r,⟨K + 1,fun k hk => ?_⟩,.inr ⟨next,h1,h2,h3,h4⟩⟩
    obtain ⟨k,rfl,hk⟩ := succ_of hk
    have q := hK k (by omega)
    simp only at q
    have hne : ¬ r.2.2.2.2.2.2 = 0 := by omega
    simp only [truffleref14_node.l0]
    rw [is_shut_no l j hsh]
    simp only [Option.bind_some]
    rw [if_neg (by decide),wrap_succ d (by omega),q]
    simp only [Option.bind_some]
    rw [if_neg hne]
    conv => rhs;rw [h2]
    rw [h2]
theorem node_ref (l : List TokS) (hl : l.length ≤ 1000) : ∀ (m at0 d : Nat),at0 ≤ l.length → l.length - at0 ≤ m → d ≤ 16 → (d = 0 ∨ ¬ (∃ h : at0 < l.length,doesI l[at0] = 2)) → NodeP l at0 d := by
 intro m
 induction m with
 | zero =>
  intro at0 d h1 h2 h3 h4 st hst hf hz
  have hat : at0 = l.length := by omega
  refine ⟨(0,⟨#[]⟩,0,0,[],(at0 : Int),4),⟨1,fun k hk => ?_⟩,.inr ⟨at0,.inl rfl,rfl,by omega,.inr ⟨hat,rfl,st,by rw [List.drop_of_length_le (by omega),parseL],?_⟩⟩⟩
  ·obtain ⟨k,rfl,hk⟩ := succ_of hk
   have c0 : (at0 : Int) ≥ (l.length : Int) := by omega
   simp only [truffleref14_node.f]
   rw [if_pos c0]
  ·by_cases hd : d = 0
   ·exact .inr ⟨by omega,hz hd⟩
   ·exact .inl (by omega)
 | succ m ih =>
  intro at0 d h1 h2 h3 h4 st hst hf hz
  by_cases hlt : at0 < l.length
  ·have c0 : ¬ ((at0 : Int) ≥ (l.length : Int)) := by omega
   have c1 : (0 : Int) ≤ (at0 : Int) := by omega
   have c2 : (at0 : Int) < (l.length : Int) := by omega
   have hdrop := List.drop_eq_getElem_cons hlt
   have hbare := doesI_bare l[at0]
   have hrd := rd_tok l at0 hlt
   have hsh : doesI l[at0] = 2 → d = 0 := fun h => by
    rcases h4 with h4 | h4
    ·exact h4
    ·exact absurd ⟨hlt,h⟩ h4
   generalize l[at0] = t at *
   have hatom : doesI t = 0 → ∀ (b : Bool),(∀ k,truffleref14_node.f (k + 1) l (at0 : Int) (d : Int) = truffleref14_node.j0 k l at0 d b t.f0 t.f1 t.f2 t.f3) → b = true → ∃ r,Ev (fun k => truffleref14_node.f k l (at0 : Int) (d : Int)) r ∧ NodeR l at0 st r := by
    rintro h0 b hb rfl
    refine ⟨(t.f0,t.f1,t.f2,t.f3,[],((at0 + 1 : Nat) : Int),0),⟨2,fun k hk => ?_⟩,.inl ⟨at0 + 1,rfl,rfl,by omega,by omega,?_⟩⟩
    ·obtain ⟨k,rfl,hk⟩ := succ_of2 hk
     show truffleref14_node.f (k + 1 + 1) l (at0 : Int) (d : Int) = _
     rw [hb]
     simp only [truffleref14_node.j0]
     rw [if_pos trivial,wrap_succ at0 (by omega)]
    ·rw [hdrop]
     exact parse_atom t _ st h0 hf
   by_cases hk3 : t.f0 = 3
   ·have hf3 : ∀ k,truffleref14_node.f (k + 1) l (at0 : Int) (d : Int) = truffleref14_node.j0 k l at0 d (t.f1.toList == [46]) t.f0 t.f1 t.f2 t.f3 := by
     intro k
     simp only [truffleref14_node.f]
     rw [if_neg c0,if_pos c1,if_pos c2,hrd,if_pos hk3]
    by_cases h46 : bl t.f1 = [46]
    ·exact hatom (by rw [hbare,if_pos (.inr h46)]) _ hf3 (by rw [toList_bl,h46];rfl)
    ·have hb : (t.f1.toList == ([46] : List UInt8)) = false := by rw [toList_bl];exact beq_eq_false_iff_ne.2 h46
     rw [if_neg (by rintro (h | h);exact h hk3;exact h46 h)] at hbare
     by_cases h40 : bl t.f1 = [40]
     ·rw [if_pos h40] at hbare
      by_cases hd16 : d ≥ 16
      ·refine ⟨(0,⟨#[]⟩,0,0,[],(at0 : Int),2),⟨2,fun k hk => ?_⟩,.inr ⟨at0,.inr rfl,rfl,by omega,.inl ⟨hlt,?_⟩⟩⟩
       ·obtain ⟨k,rfl,hk⟩ := succ_of2 hk
        have c3 : (d : Int) ≥ 16 := by omega
        show truffleref14_node.f (k + 1 + 1) l (at0 : Int) (d : Int) = _
        rw [hf3,hb]
        simp only [truffleref14_node.j0]
        rw [if_neg (by decide),if_pos (by rw [toList_bl];exact h40),if_pos c3]
       ·have ht : l[at0] = t := by have h9 := hdrop;rw [List.drop_eq_getElem_cons hlt] at h9;exact (List.cons.inj h9).1
        rw [ht,hdrop,parse_open t _ st hbare hf,if_pos (by omega)]
      ·obtain ⟨r,⟨K,hK⟩,hr⟩ := node_list l hl d (by omega) t.f3 m (at0 + 1) st [] (by omega) (by omega) (by simp) hst (fun j' g1 g2 g3 => ih j' (d + 1) g2 (by omega) (by omega) (.inr g3))
       have hop : parseL (l.drop at0) st = parseL (l.drop (at0 + 1)) (st ++ [⟨4,⟨#[]⟩,0,t.f3,[]⟩]) := by rw [hdrop,parse_open t _ st hbare hf,if_neg (by omega)]
       refine ⟨r,⟨K + 2,fun k hk => ?_⟩,?_⟩
       ·obtain ⟨k,rfl,hk⟩ := succ_of2 hk
        have q := hK k (by omega)
        have c3 : ¬ ((d : Int) ≥ 16) := by omega
        show truffleref14_node.f (k + 1 + 1) l (at0 : Int) (d : Int) = _
        rw [hf3,hb]
        simp only [truffleref14_node.j0]
        rw [if_neg (by decide),if_pos (by rw [toList_bl];exact h40),if_neg c3,wrap_succ at0 (by omega)]
        exact q
       ·rcases hr with ⟨nx,g1,g2,g3,g4,g5⟩ | ⟨nx,g1,g2,g3,g4⟩
        ·exact .inl ⟨nx,g1,g2,by omega,g4,hop.trans g5⟩
        ·refine .inr ⟨nx,g1,g2,g3,?_⟩
         rcases g4 with ⟨z,g4⟩ | ⟨z,z2,st',g4,z3⟩
         ·exact .inl ⟨z,hop.trans g4⟩
         ·exact .inr ⟨z,z2,st',hop.trans g4,z3⟩
     ·rw [if_neg h40] at hbare
      refine ⟨(0,⟨#[]⟩,0,0,[],(at0 : Int),4),⟨2,fun k hk => ?_⟩,.inr ⟨at0,.inl rfl,rfl,by omega,.inl ⟨hlt,?_⟩⟩⟩
      ·obtain ⟨k,rfl,hk⟩ := succ_of2 hk
       show truffleref14_node.f (k + 1 + 1) l (at0 : Int) (d : Int) = _
       rw [hf3,hb]
       simp only [truffleref14_node.j0]
       rw [if_neg (by decide),if_neg (by rw [toList_bl];exact h40)]
      ·have ht : l[at0] = t := by have h9 := hdrop;rw [List.drop_eq_getElem_cons hlt] at h9;exact (List.cons.inj h9).1
       rw [ht,hdrop,parseL,if_neg hf]
       by_cases h41 : bl t.f1 = [41]
       ·rw [if_pos h41] at hbare
        have hd0 := hsh hbare
        rw [if_neg (by omega),if_pos ⟨hbare,by omega⟩]
       ·rw [if_neg h41] at hbare
        rw [if_pos hbare]
   ·refine hatom (by rw [hbare,if_pos (.inl hk3)]) true (fun k => ?_) rfl
    simp only [truffleref14_node.f]
    rw [if_neg c0,if_pos c1,if_pos c2,hrd,if_neg hk3]
  ·exact ih at0 d h1 (by omega) h3 h4 st hst hf hz
theorem parse_ref (s : ByteArray) (hs : s.size ≤ 6000) : Ev (fun k => truffleref14_Parse.f k s) ((parseN s).1.f0,(parseN s).1.f1,(parseN s).1.f2,(parseN s).1.f3,(parseN s).1.f4,(parseN s).2.1,(parseN s).2.2) := by
 by_cases he : (allF s).2.2 = 0
 ·obtain ⟨r,⟨K,hK⟩,hr⟩ := node_ref (allF s).1 (allF_len s) (allF s).1.length 0 0 (by omega) (by omega) (by omega) (.inl rfl) [zN] rfl (by rintro ⟨_,h⟩;exact absurd h (by decide)) (fun _ => rfl)
  have hp : parseN s = parseEnd s.size (parseL (allF s).1 [zN]) := by unfold parseN;exact if_neg (by rw [he];decide)
  unfold NodeR at hr
  rw [List.drop_zero] at hr
  refine ⟨max K (30 * s.size + 3001),fun k hk => ?_⟩
  have q := hK k (by omega)
  simp only [Int.natCast_zero] at q
  show truffleref14_Parse.f k s = _
  unfold truffleref14_Parse.f
  rw [all_ref s k (by omega) (by omega)]
  simp only [Option.bind_some]
  rw [if_pos he,q]
  simp only [Option.bind_some]
  rw [hp]
  rcases hr with ⟨nx,g1,g2,g3,g4,g5⟩ | ⟨nx,g1,g2,g3,g4⟩
  ·rw [if_pos g1,g2,g5]
   rw [show ([zN] : List NodeS) = [] ++ [zN] from rfl,add_snoc]
   by_cases hlt : nx < (allF s).1.length
   ·have c0 : (nx : Int) < ((allF s).1.length : Int) := by omega
    rw [if_pos c0,if_pos (by omega),rd_tok _ nx hlt,List.drop_eq_getElem_cons hlt,parseL,if_pos ⟨rfl,rfl⟩]
    rfl
   ·have c0 : ¬ ((nx : Int) < ((allF s).1.length : Int)) := by omega
    rw [if_neg c0,List.drop_of_length_le (by omega),parseL]
    rfl
  ·have hne : ¬ r.2.2.2.2.2.2 = 0 := by omega
   have hnx : r.2.2.2.2.2.1 = (nx : Int) := by rw [g2]
   rw [if_neg hne,hnx]
   unfold truffleref14_place.f
   rcases g4 with ⟨hlt,g5⟩ | ⟨g6,g7,st',g5,g8⟩
   ·have c0 : (nx : Int) < ((allF s).1.length : Int) := by omega
    rw [if_pos c0,if_pos (by omega),rd_tok _ nx hlt,g5]
    rfl
   ·have c0 : ¬ ((nx : Int) < ((allF s).1.length : Int)) := by omega
    rw [if_neg c0,g5,g7]
    simp only [Option.bind_some,parseEnd]
    rcases g8 with g8 | ⟨g8,g9⟩
    ·rw [if_pos g8];rfl
    ·rw [if_neg (by omega),if_pos g9];rfl
 ·have hp : parseN s = (zN,(allF s).2.1,(allF s).2.2) := by unfold parseN;exact if_pos he
  refine ⟨30 * s.size + 3001,fun k hk => ?_⟩
  show truffleref14_Parse.f k s = _
  unfold truffleref14_Parse.f
  rw [all_ref s k (by omega) (by omega)]
  simp only [Option.bind_some]
  rw [if_neg he,hp]
  rfl
theorem fitLen_toks : ∀ (N : Nat) (x : NodeS),SizeOf.sizeOf x ≤ N → leafB x = true → (toksB x).length ≤ 1000000 → fitLenB x := by
 intro N
 induction N with
 | zero => intro x hN;obtain ⟨k,t,n,a,l⟩ := x;simp only [S39.mk.sizeOf_spec] at hN;omega
 | succ N ih =>
  intro x hN hx hl
  obtain ⟨k,t,n,a,l⟩ := x
  by_cases h4 : k = 4
  ·subst h4
   rw [leafB,if_pos rfl,Bool.and_eq_true,Bool.and_eq_true,leafL_all] at hx
   rw [toksB,if_pos rfl] at hl
   simp only [List.length_cons,List.length_append,List.length_nil] at hl
   have := toksBL_le l
   exact ⟨by omega,(fitLenL_all l).2 fun y hy => ih y (by have := size_in ⟨4,t,n,a,l⟩ y hy;omega) (hx.2.2 y hy) (by have := this.2 y hy;omega)⟩
  ·obtain ⟨rfl,_⟩ := lex1_leaf k t n a l h4 hx
   exact ⟨by simp,trivial⟩
theorem fit_len : ∀ (N : Nat) (x : NodeS),SizeOf.sizeOf x ≤ N → fitB x → fitLenB x := by
 intro N
 induction N with
 | zero => intro x hN;obtain ⟨k,t,n,a,l⟩ := x;simp only [S39.mk.sizeOf_spec] at hN;omega
 | succ N ih =>
  intro x hN hx
  obtain ⟨k,t,n,a,l⟩ := x
  exact ⟨hx.2.1,(fitLenL_all l).2 fun y hy => ih y (by have := size_in ⟨k,t,n,a,l⟩ y hy;omega) ((fitL_all l).1 hx.2.2 y hy)⟩
theorem parse_fit (s : ByteArray) : smallB (parseN s).1 = true ∧ fitLenB (parseN s).1 := by
 rcases parse_facts s with ⟨_,_,ts,h3⟩ | ⟨_,h2,_,_⟩
 ·refine ⟨parsed_small _ _ _ h3,?_⟩
  obtain ⟨g1,g2,g3,g4,g5,g6,g7⟩ := h3
  exact fitLen_toks _ _ (Nat.le_refl _) ((may_top _).1 g4).1 (by rw [← g3,List.length_map];omega)
 ·rw [h2]
  exact ⟨rfl,by show (0 : Nat) ≤ 1000000 ∧ True;exact ⟨by omega,trivial⟩⟩
theorem SexpTells (s : ByteArray) (x : NodeS) (ht : txtB x) : ∃ k,trufflelaw14_SexpTells.f k s x.f0 x.f1 x.f2 x.f3 x.f4 = some true := by
 obtain ⟨k,b,h1,h2⟩ := few_told x ht
 cases b with
 | false =>
  refine ⟨k + 1,?_⟩
  unfold trufflelaw14_SexpTells.f
  rw [awake14_true]
  simp only [Option.bind_some,if_true,h1 (k + 1) (by omega),trufflelaw14_SexpTells.j0]
  rfl
 | true =>
  obtain ⟨hs,htot⟩ := h2 rfl
  by_cases hb : (s.size : Int) > 6000
  ·refine ⟨k + 1,?_⟩
   unfold trufflelaw14_SexpTells.f
   rw [awake14_true]
   simp only [Option.bind_some,if_true,h1 (k + 1) (by omega),trufflelaw14_SexpTells.j0,decide_eq_true hb]
  ·have hfit := fit_few _ x (Nat.le_refl _) htot
   have hl := text_tot _ x (Nat.le_refl _)
   obtain ⟨K1,r1⟩ := parse_ref s (by omega)
   obtain ⟨ps,pf⟩ := parse_fit s
   obtain ⟨K2,r2⟩ := same_ref _ true (parseN s).1 (parseN s).1 (Nat.le_refl _) pf
   obtain ⟨K3,r3⟩ := may_ref _ x 0 (Nat.le_refl _) hfit (by omega)
   obtain ⟨K4,r4⟩ := textX_ref _ x (Nat.le_refl _) hfit (by omega)
   obtain ⟨K5,r5⟩ := same_ref _ false x (parseN s).1 (Nat.le_refl _) (fit_len _ x (Nat.le_refl _) hfit)
   rw [sameW_refl true _ _ (Nat.le_refl _)] at r2
   rw [sameW_false _ _ _ (Nat.le_refl _)] at r5
   obtain ⟨m,hm⟩ : ∃ m,m = max k (max K1 (max K2 (max K3 (max K4 K5)))) := ⟨_,rfl⟩
   have q1 := r1 m (by omega)
   have q2 := r2 m (by omega)
   have q3 := r3 m (by omega)
   have q4 := r4 m (by omega)
   have q5 := r5 m (by omega)
   simp only [Int.natCast_zero] at q1 q2 q3 q4 q5
   have m1 : truffleref14_May.f m x.f0 x.f1 x.f2 x.f3 x.f4 = some (mayB x 0) := by unfold truffleref14_May.f;rw [q3];rfl
   have m2 : truffleref14_Print.f m x.f0 x.f1 x.f2 x.f3 x.f4 = some (if mayB x 0 = true then textS x else ⟨#[]⟩) := by
    unfold truffleref14_Print.f
    rw [m1]
    simp only [Option.bind_some]
    cases mayB x 0 with
    | false => rfl
    | true => rw [if_pos rfl,if_pos rfl,q4];rfl
   have hself : sameB x x = true := (same_iff x x).2 rfl
   refine ⟨m + 1,?_⟩
   unfold trufflelaw14_SexpTells.f
   rw [awake14_true]
   simp only [Option.bind_some,if_true,h1 (m + 1) (by omega),trufflelaw14_SexpTells.j0]
   rw [if_neg (by rw [decide_eq_false hb];decide)]
   unfold sexp_Parse.f
   simp only [Option.bind_some,q1,q2,if_true,mayF_eq x hs,m1,beq_self_eq_true,printF_eq x hs (by omega),m2,sameF_eq x (parseN s).1 hs ps,q5,sameF_eq x x hs hs,hself]
theorem SexpTellsW (s : ByteArray) (x : NodeS) (A : Option Addr) (c : Nat) (W : World) (w0 : s.size ≤ 140737488351232) (hC : Kd.C k39 W A x.f4.length x.f4) (hc : x.f4.length ≤ c) (ht : txtB x) (hG : GInv W) :
  Calls Tryd.prog 10 #[.string s,.agg #[.int .i64 x.f0,.string x.f1,.int .i64 x.f2,.int .i64 x.f3,.slice A x.f4.length c]] W fun e w' => e = .returned (.bool true) ∧ Below W.heap.size W w' := by
 obtain ⟨k,h⟩ := SexpTells s x ht
 exact trufflelaw14_SexpTells.calls k s x.f0 x.f1 x.f2 x.f3 A c x.f4 W hG hC hc h
end Go.Proofs.YtngcojabofkbjaaDoor.P
namespace Go.Proofs.YtngcojabofkbjaaDoor.laidKit
open Go.RowKit
abbrev lst : List (String × DataW Unit) := [("math/bits.deBruijn32tab",Rows.laid_math_bits_deBruijn32tab),("math/bits.deBruijn64tab",Rows.laid_math_bits_deBruijn64tab),("internal/strconv.uint64pow10",Rows.laid_internal_strconv_uint64pow10),("strconv.ErrRange",Rows.laid_strconv_ErrRange),("strconv.ErrSyntax",Rows.laid_strconv_ErrSyntax)]
theorem gPow : Tryd.prog.globalNamed "internal/strconv.uint64pow10" = some 0 := by kernel_rfl
theorem gPowT : (Tryd.prog.globals[0]?).map (·.type) = some 120 := by kernel_rfl
theorem cPow : Tryd.prog.cellsOf 120 = 20 := by kernel_rfl
theorem cU64 : Tryd.prog.cellsOf 101 = 1 := by kernel_rfl
theorem gRng : Tryd.prog.globalNamed "strconv.ErrRange" = some 2 := by kernel_rfl
theorem gRngT : (Tryd.prog.globals[2]?).map (·.type) = some 67 := by kernel_rfl
theorem gSyn : Tryd.prog.globalNamed "strconv.ErrSyntax" = some 1 := by kernel_rfl
theorem gSynT : (Tryd.prog.globals[1]?).map (·.type) = some 67 := by kernel_rfl
theorem cErr : Tryd.prog.cellsOf 132 = 1 := by kernel_rfl
theorem cStr : Tryd.prog.cellsOf 9 = 1 := by kernel_rfl
theorem star : "*" ++ "errors.errorString" = "*errors.errorString" := by decide
theorem rowErr (u : TypeId) (h : Tryd.prog.typeName? 3 u = some "*errors.errorString") : u = 130 :=
 typeName_ptr_named (nm := "errors.errorString") (by rw [star];kernel_rfl) (by kernel_rfl) (by decide) u (by rw [star];exact h)
theorem pow_is : (Rows.laid_internal_strconv_uint64pow10 : DataW Unit) = Lib.tabData .u64 Lib.pow10Tab := by rfl
theorem ginv {W : World} (h : laidMetH Tryd.prog lst W) : P.GInv W := by
 rw [Go.MakeChecks.laidMetH_plain _ _ _ (by kernel_rfl)] at h
 have h3 := h.tail.tail
 have hp : Lib.TabIs Tryd.prog W "internal/strconv.uint64pow10" .u64 Lib.pow10Tab :=
  Lib.tabIs_of_head gPow gPowT Tryd.underlying120 Tryd.underlying101 cU64 cPow (by rw [← pow_is];exact h3)
 obtain ⟨a1,s1,hv1,_,_,_⟩ := laid_sentinel h3.tail gRng gRngT Tryd.underlying67 rowErr Tryd.underlying130 Tryd.underlying132 rfl rfl Tryd.underlying9 cErr cStr
 obtain ⟨a2,s2,hv2,_,_,_⟩ := laid_sentinel h3.tail.tail gSyn gSynT Tryd.underlying67 rowErr Tryd.underlying130 Tryd.underlying132 rfl rfl Tryd.underlying9 cErr cStr
 refine ⟨⟨_,_,by have h0 := World.var?_cell gSyn hv2 0;simpa using h0⟩,⟨_,_,by have h0 := World.var?_cell gRng hv1 0;simpa using h0⟩,hp,?_⟩
 have c0 := hp.cell gPow 0 (by decide)
 exact World.block_lt_of_cell? W _ c0
abbrev synS : ByteArray := { data := #[105,110,118,97,108,105,100,32,115,121,110,116,97,120] }
abbrev rngS : ByteArray := { data := #[118,97,108,117,101,32,111,117,116,32,111,102,32,114,97,110,103,101] }
def cellsOfData : DataW Unit → Array Value
 | .agg l => (l.map fun
   | .lit (.int k n) => Value.int k n
   | _ => .nilIface).toArray
 | _ => #[]
noncomputable def low : Nat := (World.holding Tryd.prog default ⟨#[],#[],[]⟩).heap.size
noncomputable def laidWorld (os : Os) : World :=
 let w0 := World.holding Tryd.prog os ⟨#[.cells #[.string synS] 132,.cells #[.string rngS] 132],#[],[]⟩
 { w0 with heap := ((((w0.heap.modify 0 fun
   | .cells _ t frozen => .cells (cellsOfData Rows.laid_internal_strconv_uint64pow10) t frozen
   | o => o).modify 1 fun
   | .cells _ t frozen => .cells #[.iface 130 (.pointer (some ⟨low,0,none⟩))] t frozen
   | o => o).modify 2 fun
   | .cells _ t frozen => .cells #[.iface 130 (.pointer (some ⟨low + 1,0,none⟩))] t frozen
   | o => o).modify 4 fun
   | .cells _ t frozen => .cells (cellsOfData Rows.laid_math_bits_deBruijn32tab) t frozen
   | o => o).modify 5 fun
   | .cells _ t frozen => .cells (cellsOfData Rows.laid_math_bits_deBruijn64tab) t frozen
   | o => o }
theorem laid_met (os : Os) (args : Array Value) : laidMet Tryd.prog lst ((laidWorld os).forCall (fun _ _ => 0) ⟨#[],args,[]⟩).memory :=
 laidMet_of_run' 8 (by kernel_rfl) (by kernel_rfl)
end Go.Proofs.YtngcojabofkbjaaDoor.laidKit
