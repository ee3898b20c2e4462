/- Part 6 of what the law SexpTells leans on: contracts of the functions that it reaches, and plain lemmas; printed walks and words (by the kit's print, through wip/mp.py) and the session's own texts, one behind the other, what is not used left out (wip/prune.py). -/
import Derived.RangeFuncNested
import Derived.RangeFuncBound
import Derived.RangeFuncCalls
import Derived.RangeFuncLeaves
import Derived.Shelf.Abstract
import Derived.Shelf.RegionOpen
import Derived.OwnWalkIn
import Derived.TacticsInMore
import Derived.LoopNIn
import Derived.LoopIn
import Derived.Lib.ItoaMem
import Derived.Lib.Strings
import Derived.Lib.Slices
import Derived.Lib.Walk
import Derived.Lib.Builder
import Derived.Lib.AppendStr
import Derived.Lib.UnsafeStr
import Derived.Lib.MakeNoZero
import Derived.Laws.Externs
import Derived.Stop.RegionWithIn
import Derived.RangeFuncBox
import Derived.Maps.AppendAt
import Derived.StillTailTactics
import Derived.Test.YtngcojabofkbjaaDoorMSexpTells1
import Derived.Test.YtngcojabofkbjaaDoorMSexpTells2
import Derived.Test.YtngcojabofkbjaaDoorMSexpTells3
import Derived.Test.YtngcojabofkbjaaDoorMSexpTells4
import Derived.Test.YtngcojabofkbjaaDoorMSexpTells5
namespace Go.Proofs.YtngcojabofkbjaaDoor.P
open Go.RowKit Go.Proofs.YtngcojabofkbjaaDoorW.PrintWords Go.Proofs.YtngcojabofkbjaaDoorW.PrintLast Go.Proofs.YtngcojabofkbjaaDoorW.PrintMore
set_option linter.unusedVariables false
set_option linter.unusedSimpArgs false
attribute [local go_sem high] eqA29
def sexp_alone.f (a0_0 : Int) (a0_1 : ByteArray) (a0_2 : Int) (a0_3 : Int) (l0_4 : List (S39)) : Option (Bool) := (token_All.f a0_1).bind fun bt313 => (if bt313.2.2 = 0 then (if (bt313.1.length : Int) = 1 then (if 0 < (bt313.1.length : Int) then (some (((rd_T29 bt313.1 0).f0) == a0_0 && ((((rd_T29 bt313.1 0).f1).toList) == a0_1.toList && (((rd_T29 bt313.1 0).f2) == a0_2 && (((rd_T29 bt313.1 0).f3) == 0))))) else (none)) else (some false)) else (some false))
set_option maxHeartbeats 8000000 in
set_option maxRecDepth 100000 in
theorem sexp_alone.calls (a0_0 : Int) (a0_1 : ByteArray) (a0_2 : Int) (a0_3 : Int) (A0_4 : Option Addr) (c0_4 : Nat) (l0_4 : List (S39)) (r : Bool) (w : World) (hG : GInv w) (hr0_4 : Kd.C k39 w A0_4 l0_4.length l0_4) (hc0_4 : l0_4.length ≤ c0_4) (h : sexp_alone.f a0_0 a0_1 a0_2 a0_3 l0_4 = some r) :
  Calls Tryd.prog 70 #[.agg #[.int .i64 a0_0, .string a0_1, .int .i64 a0_2, .int .i64 a0_3, .slice A0_4 l0_4.length c0_4]] w fun e w' => e = .returned (.bool r) ∧ Below w.heap.size w w' := by
 have hu39 := Tryd.underlying39
 have hu29 := Tryd.underlying29
 have HR0_4 := Y0 hr0_4
 have HC0_4 := Y0 hc0_4
 clear hr0_4 hc0_4
 have HB := Y0 (Below.refl w.heap.size w)
 have H : ((token_All.f a0_1).bind fun bt313 => (if bt313.2.2 = 0 then (if (bt313.1.length : Int) = 1 then (if 0 < (bt313.1.length : Int) then (some (((rd_T29 bt313.1 0).f0) == a0_0 && ((((rd_T29 bt313.1 0).f1).toList) == a0_1.toList && (((rd_T29 bt313.1 0).f2) == a0_2 && (((rd_T29 bt313.1 0).f3) == 0))))) else (none)) else (some false)) else (some false))) = some r := h
 clear h
 replace H := Y17.mp H
 obtain ⟨⟨t313, t314, t315⟩, A20, H⟩ := H
 try dsimp only at H
 have A2 := Y0 A20
 clear A20
 by_cases c3 : t315 = 0
 rotate_left
 ·rw [if_neg c3] at H
  have c3b0 : (t315 == 0) = false := beq_eq_false_iff_ne.mpr c3
  have c3b1 : (t315 != 0) = true := bne_iff_ne.mpr c3
  obtain rfl := Option.some.inj H
  go_enter Tryd.func70, Tryd.ntmps70
  go_wp2_with (first | ((with_reducible refine gate_dst (N := 1) rfl ?_); (try (refine gate_guard (by rfl) ?_; dsimp only)); refine box_event ?hg (N := 1) ?hd (cs := #[.int .i64 a0_0, .string a0_1, .int .i64 a0_2, .int .i64 a0_3, .slice A0_4 l0_4.length c0_4]) (t := 39) ?hr ?_; (case hd => rfl); (case hg => rfl); (case hr => first | (go_simp; done) | (go_simp; rfl)); intro gb312 hg w15 hbox hb; have n0_ := Y0 (below_step (by repeat (with_reducible first | exact HB.out | apply Y3 | apply Y1 | apply Y2)) hb); have n1_ := Y0 (hbox); have n2_ := Y0 ((by rw [hg]; exact (below_size (by repeat (with_reducible first | exact HB.out | apply Y3 | apply Y1 | apply Y2))) : w.heap.size ≤ gb312)); have n3_ := Y0 ((by rw [hg]; exact (below_size (by repeat (with_reducible first | exact HB.out | apply Y3 | apply Y1 | apply Y2))) : w.heap.size ≤ gb312)); clear HB; have HB := n0_; have BK312 := n1_; have GW312 := n2_; have GE312 := n3_; clear n0_ n1_ n2_ n3_; clear hb hbox hg; have ⟨hcz16_0, hcz16_1, hcz16_2, hcz16_3, hcz16_4, hfz16_0, hfz16_1, hfz16_2, hfz16_3, hfz16_4⟩ := sq_box5 BK312.out) | (go_at_call 16; (with_reducible refine (token_All.calls a0_1 t313 t314 t315 _ ?side1 A2.out).mono ?_); (case side1 => exact hG.below (by repeat (with_reducible first | exact HB.out | apply Y3 | apply Y1 | apply Y2 | refine Y4 ?_ GE312.out))); rintro e w17 ⟨v316, rfl, ho0, hb⟩; have n0_ := Y0 (Kd.R_lower ho0 (below_size (by repeat (with_reducible first | exact HB.out | apply Y3 | apply Y1 | apply Y2 | refine Y4 ?_ GE312.out)))); have n1_ := Y0 (blk_below (g := gb312) (o := .cells #[.int .i64 a0_0, .string a0_1, .int .i64 a0_2, .int .i64 a0_3, .slice A0_4 l0_4.length c0_4] 39 (0, 0)) (by (with_reducible repeat first | apply Y11 | apply Y13 | apply Y12); exact BK312.out) hb); have n2_ := Y0 (below_step (by repeat (with_reducible first | exact HB.out | apply Y3 | apply Y1 | apply Y2 | refine Y4 ?_ GE312.out)) hb); clear BK312; clear HB; have HO317 := n0_; have BK312 := n1_; have HB := n2_; clear n0_ n1_ n2_; (try clear hb); (try clear hb2); (try clear hk); (try clear hi); (try clear ho0)))
  repeat (go_quiet (fail); try go_wp2)
  go_ret
  exact ⟨by first | rfl | (simp [] <;> rfl) | (simp [*] <;> rfl), by repeat (with_reducible first | exact HB.out | apply Y3 | apply Y1 | apply Y2 | refine Y4 ?_ GE312.out)⟩
 rw [if_pos c3] at H
 have c3b0 : (t315 == 0) = true := beq_iff_eq.mpr c3
 have c3b1 : (t315 != 0) = false := bne_eq_false_iff_eq.mpr c3
 clear c3
 by_cases c4 : (t313.length : Int) = 1
 rotate_left
 ·rw [if_neg c4] at H
  have c4b0 : ((t313.length : Int) == 1) = false := beq_eq_false_iff_ne.mpr c4
  have c4b1 : ((t313.length : Int) != 1) = true := bne_iff_ne.mpr c4
  obtain rfl := Option.some.inj H
  go_enter Tryd.func70, Tryd.ntmps70
  go_wp2_with (first | ((with_reducible refine gate_dst (N := 1) rfl ?_); (try (refine gate_guard (by rfl) ?_; dsimp only)); refine box_event ?hg (N := 1) ?hd (cs := #[.int .i64 a0_0, .string a0_1, .int .i64 a0_2, .int .i64 a0_3, .slice A0_4 l0_4.length c0_4]) (t := 39) ?hr ?_; (case hd => rfl); (case hg => rfl); (case hr => first | (go_simp; done) | (go_simp; rfl)); intro gb312 hg w11 hbox hb; have n0_ := Y0 (below_step (by repeat (with_reducible first | exact HB.out | apply Y3 | apply Y1 | apply Y2)) hb); have n1_ := Y0 (hbox); have n2_ := Y0 ((by rw [hg]; exact (below_size (by repeat (with_reducible first | exact HB.out | apply Y3 | apply Y1 | apply Y2))) : w.heap.size ≤ gb312)); have n3_ := Y0 ((by rw [hg]; exact (below_size (by repeat (with_reducible first | exact HB.out | apply Y3 | apply Y1 | apply Y2))) : w.heap.size ≤ gb312)); clear HB; have HB := n0_; have BK312 := n1_; have GW312 := n2_; have GE312 := n3_; clear n0_ n1_ n2_ n3_; clear hb hbox hg; have ⟨hcz12_0, hcz12_1, hcz12_2, hcz12_3, hcz12_4, hfz12_0, hfz12_1, hfz12_2, hfz12_3, hfz12_4⟩ := sq_box5 BK312.out) | (go_at_call 16; (with_reducible refine (token_All.calls a0_1 t313 t314 t315 _ ?side1 A2.out).mono ?_); (case side1 => exact hG.below (by repeat (with_reducible first | exact HB.out | apply Y3 | apply Y1 | apply Y2 | refine Y4 ?_ GE312.out))); rintro e w13 ⟨v316, rfl, ho0, hb⟩; have n0_ := Y0 (Kd.R_lower ho0 (below_size (by repeat (with_reducible first | exact HB.out | apply Y3 | apply Y1 | apply Y2 | refine Y4 ?_ GE312.out)))); have n1_ := Y0 (blk_below (g := gb312) (o := .cells #[.int .i64 a0_0, .string a0_1, .int .i64 a0_2, .int .i64 a0_3, .slice A0_4 l0_4.length c0_4] 39 (0, 0)) (by (with_reducible repeat first | apply Y11 | apply Y13 | apply Y12); exact BK312.out) hb); have n2_ := Y0 (below_step (by repeat (with_reducible first | exact HB.out | apply Y3 | apply Y1 | apply Y2 | refine Y4 ?_ GE312.out)) hb); clear BK312; clear HB; have HO317 := n0_; have BK312 := n1_; have HB := n2_; clear n0_ n1_ n2_; (try clear hb); (try clear hb2); (try clear hk); (try clear hi); (try clear ho0); obtain ⟨Ao14, co14, eo14⟩ := Kd.R_slice HO317.out; subst eo14))
  repeat (go_quiet (fail); try go_wp2)
  go_ret
  exact ⟨by first | rfl | (simp [] <;> rfl) | (simp [*] <;> rfl), by repeat (with_reducible first | exact HB.out | apply Y3 | apply Y1 | apply Y2 | refine Y4 ?_ GE312.out)⟩
 rw [if_pos c4] at H
 have c4b0 : ((t313.length : Int) == 1) = true := beq_iff_eq.mpr c4
 have c4b1 : ((t313.length : Int) != 1) = false := bne_eq_false_iff_eq.mpr c4
 clear c4
 by_cases c5 : 0 < (t313.length : Int)
 rotate_left
 ·rw [if_neg c5] at H
  exact absurd H (by simp)
 rw [if_pos c5] at H
 have c5b0 : decide (0 < (t313.length : Int)) = true := decide_eq_true c5
 have c5b1 : decide (0 < t313.length) = true := decide_eq_true (by omega)
 clear c5
 obtain rfl := Option.some.inj H
 go_enter Tryd.func70, Tryd.ntmps70
 go_wp2_with (first | ((with_reducible refine gate_dst (N := 1) rfl ?_); (try (refine gate_guard (by rfl) ?_; dsimp only)); refine box_event ?hg (N := 1) ?hd (cs := #[.int .i64 a0_0, .string a0_1, .int .i64 a0_2, .int .i64 a0_3, .slice A0_4 l0_4.length c0_4]) (t := 39) ?hr ?_; (case hd => rfl); (case hg => rfl); (case hr => first | (go_simp; done) | (go_simp; rfl)); intro gb312 hg w6 hbox hb; have n0_ := Y0 (below_step (by repeat (with_reducible first | exact HB.out | apply Y3 | apply Y1 | apply Y2)) hb); have n1_ := Y0 (hbox); have n2_ := Y0 ((by rw [hg]; exact (below_size (by repeat (with_reducible first | exact HB.out | apply Y3 | apply Y1 | apply Y2))) : w.heap.size ≤ gb312)); have n3_ := Y0 ((by rw [hg]; exact (below_size (by repeat (with_reducible first | exact HB.out | apply Y3 | apply Y1 | apply Y2))) : w.heap.size ≤ gb312)); clear HB; have HB := n0_; have BK312 := n1_; have GW312 := n2_; have GE312 := n3_; clear n0_ n1_ n2_ n3_; clear hb hbox hg; have ⟨hcz7_0, hcz7_1, hcz7_2, hcz7_3, hcz7_4, hfz7_0, hfz7_1, hfz7_2, hfz7_3, hfz7_4⟩ := sq_box5 BK312.out) | (go_at_call 16; (with_reducible refine (token_All.calls a0_1 t313 t314 t315 _ ?side1 A2.out).mono ?_); (case side1 => exact hG.below (by repeat (with_reducible first | exact HB.out | apply Y3 | apply Y1 | apply Y2 | refine Y4 ?_ GE312.out))); rintro e w8 ⟨v316, rfl, ho0, hb⟩; have n0_ := Y0 (Kd.R_lower ho0 (below_size (by repeat (with_reducible first | exact HB.out | apply Y3 | apply Y1 | apply Y2 | refine Y4 ?_ GE312.out)))); have n1_ := Y0 (blk_below (g := gb312) (o := .cells #[.int .i64 a0_0, .string a0_1, .int .i64 a0_2, .int .i64 a0_3, .slice A0_4 l0_4.length c0_4] 39 (0, 0)) (by (with_reducible repeat first | apply Y11 | apply Y13 | apply Y12); exact BK312.out) hb); have n2_ := Y0 (below_step (by repeat (with_reducible first | exact HB.out | apply Y3 | apply Y1 | apply Y2 | refine Y4 ?_ GE312.out)) hb); clear BK312; clear HB; have HO317 := n0_; have BK312 := n1_; have HB := n2_; clear n0_ n1_ n2_; (try clear hb); (try clear hb2); (try clear hk); (try clear hi); (try clear ho0); obtain ⟨Ao9, co9, eo9⟩ := Kd.R_slice HO317.out; subst eo9; have p318 : 0 ≤ (0 : Int) := (by omega); have q318 : 0 < (t313.length : Int) := of_decide_eq_true (by first | (with_reducible assumption) | assumption); obtain ⟨ad318, e318, hx318_0, hx318_1, hx318_2, hx318_3⟩ := at_T29 (Kd.R_reads' HO317.out).2.2 0 p318 q318; cases e318; have qi318 : (0 < t313.length) = True := eq_true (by omega); (try rw [show ((0 : Int)).toNat = 0 from rfl] at hx318_0); (try rw [show 0 * 4 = 0 from rfl] at hx318_0); (try rw [Addr.add_zero'] at hx318_0); (try rw [show ((0 : Int)).toNat = 0 from rfl] at hx318_1); (try rw [show 0 * 4 = 0 from rfl] at hx318_1); (try rw [Addr.add_zero'] at hx318_1); (try rw [show ((0 : Int)).toNat = 0 from rfl] at hx318_2); (try rw [show 0 * 4 = 0 from rfl] at hx318_2); (try rw [Addr.add_zero'] at hx318_2); (try rw [show ((0 : Int)).toNat = 0 from rfl] at hx318_3); (try rw [show 0 * 4 = 0 from rfl] at hx318_3); (try rw [Addr.add_zero'] at hx318_3); replace p318 := eq_true p318; replace q318 := eq_true q318; have ⟨hcz10_0, hcz10_1, hcz10_2, hcz10_3, hcz10_4, hfz10_0, hfz10_1, hfz10_2, hfz10_3, hfz10_4⟩ := sq_box5 BK312.out))
 repeat (go_quiet (fail); try go_wp2)
 go_ret
 exact ⟨by first | rfl | (simp [] <;> rfl) | (simp [*] <;> rfl), by repeat (with_reducible first | exact HB.out | apply Y3 | apply Y1 | apply Y2 | refine Y4 ?_ GE312.out)⟩
end Go.Proofs.YtngcojabofkbjaaDoor.P
namespace Go.Proofs.YtngcojabofkbjaaDoor.P
open Go.RowKit Go.Proofs.YtngcojabofkbjaaDoorW.PrintWords Go.Proofs.YtngcojabofkbjaaDoorW.PrintLast Go.Proofs.YtngcojabofkbjaaDoorW.PrintMore
set_option linter.unusedVariables false
set_option linter.unusedSimpArgs false
theorem blk_at (W : World) (o : Obj) (k : Nat) (h : k = W.heap.size) : (W.alloc o).heap[k]? = some o := by subst h; exact blk_new W o
theorem allocs3 (w : World) (o0 o1 o2 : Obj) : Below w.heap.size w (((w.alloc o0).alloc o1).alloc o2) ∧ (((w.alloc o0).alloc o1).alloc o2).heap[w.heap.size]? = some o0 ∧ (((w.alloc o0).alloc o1).alloc o2).heap[w.heap.size + 1]? = some o1 ∧ (((w.alloc o0).alloc o1).alloc o2).heap[w.heap.size + 1 + 1]? = some o2 ∧ (((w.alloc o0).alloc o1).alloc o2).heap.size = w.heap.size + 1 + 1 + 1 :=
 ⟨below_alloc (below_alloc (below_alloc (Below.refl _ _) _) _) _, blk_alloc (blk_alloc (blk_new _ _) _) _, blk_alloc (blk_at _ _ _ (by simp)) _, blk_at _ _ _ (by simp), by simp⟩
theorem allocs4 (w : World) (o0 o1 o2 o3 : Obj) : Below w.heap.size w ((((w.alloc o0).alloc o1).alloc o2).alloc o3) ∧ ((((w.alloc o0).alloc o1).alloc o2).alloc o3).heap[w.heap.size]? = some o0 ∧ ((((w.alloc o0).alloc o1).alloc o2).alloc o3).heap[w.heap.size + 1]? = some o1 ∧ ((((w.alloc o0).alloc o1).alloc o2).alloc o3).heap[w.heap.size + 1 + 1]? = some o2 ∧ ((((w.alloc o0).alloc o1).alloc o2).alloc o3).heap[w.heap.size + 1 + 1 + 1]? = some o3 ∧ ((((w.alloc o0).alloc o1).alloc o2).alloc o3).heap.size = w.heap.size + 1 + 1 + 1 + 1 := by
 obtain ⟨h, h0, h1, h2, hz⟩ := allocs3 w o0 o1 o2
 exact ⟨below_alloc h _, blk_alloc h0 _, blk_alloc h1 _, blk_alloc h2 _, blk_at _ _ _ hz.symm, by simp⟩
abbrev NodeS := S39
abbrev TN : Nat := 39
abbrev NodeAt (w0 : World) (l : List NodeS) := { p : NodeS × Array Value // p.1 ∈ l ∧ k39.K w0 p.1 p.2.toList }
theorem node_cells {w0 : World} {l : List NodeS} (x : NodeAt w0 l) : ∃ A c, x.1.2 = #[.int .i64 x.1.1.f0, .string x.1.1.f1, .int .i64 x.1.1.f2, .int .i64 x.1.1.f3, .slice A x.1.1.f4.length c] ∧ x.1.1.f4.length ≤ c ∧ k39.C w0 A x.1.1.f4.length x.1.1.f4 := by
 obtain ⟨A, c, h, h2, h3⟩ := k39_open x.2.2
 exact ⟨A, c, by rw [← h], h2, h3⟩
attribute [local go_sem] Oper.semAt_some
set_option maxHeartbeats 1000000 in
theorem each_any (w : World) (cs : Array Value) (hcs : cs.size = 5) (n : Nat) :
  CallsIn Fence.wide n Tryd.prog 71 #[.agg cs] w fun e w' => e = .returned (.func (.func 85) #[] #[.pointer (some ⟨w.heap.size, 0, none⟩)]) ∧ w' = w.alloc (.cells cs TN) := by
 refine callsIn_of_wp Tryd.func71 rfl trivial ?_ rfl
 simp only [Tryd.ntmps71, List.size_toArray, List.length_cons, List.length_nil, Nat.reduceAdd, Nat.reduceSub, Array.replicate_succ, Array.replicate_zero, List.push_toArray, List.append_toArray, List.nil_append, List.cons_append]
 gi_wp2
 go_ret
 exact ⟨rfl, rfl⟩
theorem nodeAt_get {w0 : World} {A : Option Addr} {n : Nat} {l : List NodeS} (h : k39.C w0 A n l) (k : Nat) (hk : k < l.length) (hn : l.length = n) :
  ∃ (y : NodeAt w0 l) (ad : Addr) (A4 : Option Addr) (c4 : Nat), y.1.1 = l[k] ∧ A = some ad ∧ y.1.2 = #[.int .i64 l[k].f0, .string l[k].f1, .int .i64 l[k].f2, .int .i64 l[k].f3, .slice A4 l[k].f4.length c4] ∧
   w0.cell? (ad.add (k * 5)) = some (.int .i64 l[k].f0) ∧ w0.cell? ⟨(ad.add (k * 5)).block, (ad.add (k * 5)).off + 1, none⟩ = some (.string l[k].f1) ∧ w0.cell? ⟨(ad.add (k * 5)).block, (ad.add (k * 5)).off + 2, none⟩ = some (.int .i64 l[k].f2) ∧
   w0.cell? ⟨(ad.add (k * 5)).block, (ad.add (k * 5)).off + 3, none⟩ = some (.int .i64 l[k].f3) ∧ w0.cell? ⟨(ad.add (k * 5)).block, (ad.add (k * 5)).off + 4, none⟩ = some (.slice A4 l[k].f4.length c4) := by
 obtain ⟨ad, A4, c4, e, h0, h1, h2, h3, h4, hl, hi⟩ := at_T39 h (k : Int) (by omega) (by omega)
 have er : rd_T39 l (k : Int) = l[k] := by simp [rd_T39, hk]
 rw [er] at h0 h1 h2 h3 h4 hl hi
 rw [Int.toNat_natCast] at h0 h1 h2 h3 h4
 exact ⟨⟨(l[k], #[.int .i64 l[k].f0, .string l[k].f1, .int .i64 l[k].f2, .int .i64 l[k].f3, .slice A4 l[k].f4.length c4]), ⟨List.getElem_mem _, k39_mk w0 l[k] hl hi⟩⟩, ad, A4, c4, rfl, e, rfl, h0, h1, h2, h3, h4⟩
set_option maxRecDepth 100000 in
set_option maxHeartbeats 2000000 in
theorem each1_in (n : Nat) (l Bn : Nat) (w0 : World) (x : NodeS) (A : Option Addr) (c : Nat) (J Jx : List (NodeAt w0 x.f4) → World → Prop)
  (hreach : x.f4.length ≤ 140737488351232) (hC : k39.C w0 A x.f4.length x.f4)
  (hY : ∀ pre (y : NodeAt w0 x.f4) W, J pre W → pre.length < x.f4.length → YieldAt Fence.wide (n - 1) Tryd.prog l #[.agg y.1.2] W fun e W' =>
   (e = .returned (.bool true) ∧ J (pre ++ [y]) W' ∧ Below w0.heap.size W W') ∨ (e = .returned (.bool false) ∧ Jx (pre ++ [y]) W'))
  (hAb : ∀ pre W t, J pre W → J pre (W.alloc (.cells t TN)))
  (W : World) (hb : Below w0.heap.size w0 W) (hBn : W.cell? ⟨Bn, 4, none⟩ = some (.slice A x.f4.length c)) (h0 : J [] W) :
  CallsIn Fence.wide n Tryd.prog 85 #[.func (.yield l) #[] #[], .pointer (some ⟨Bn, 0, none⟩)] W fun e W' => (∃ v, e = .returned v) ∧
   ((∃ ys : List (NodeAt w0 x.f4), ys.map (·.1.1) = x.f4 ∧ J ys W') ∨ (∃ pre : List (NodeAt w0 x.f4), pre.map (·.1.1) <+: x.f4 ∧ Jx pre W')) := by
 refine callsIn_of_wp Tryd.func85 rfl trivial ?_ rfl
 simp only [Tryd.ntmps85, List.size_toArray, List.length_cons, List.length_nil, Nat.reduceAdd, Nat.reduceSub, Array.replicate_succ, Array.replicate_zero, List.push_toArray, List.append_toArray, List.nil_append, List.cons_append]
 gi_wp2
 gi_loopw [8] (fun i wr => ∃ (k : Nat) (pre : List (NodeAt w0 x.f4)), k ≤ x.f4.length ∧ i = .int .i64 k ∧ pre.map (·.1.1) = x.f4.take k ∧ J pre wr ∧ Below w0.heap.size w0 wr)
  (fun i _ => x.f4.length - (intOf i).toNat)
 case atStart => exact ⟨0, [], Nat.zero_le _, rfl, rfl, h0, hb⟩
 case round =>
  obtain ⟨k, pre, hk, rfl, hpre, hJs, hnx⟩ := hrel
  by_cases hlt : k < x.f4.length
  ·obtain ⟨y, ad, A4, c4, hy1, hA, hy2, g0, g1, g2, g3, g4⟩ := nodeAt_get hC k hlt rfl
   cases hA
   have hx0 := (hnx.cell (World.block_lt_of_cell? w0 _ g0)).trans g0
   have hx1 := (hnx.cell (World.block_lt_of_cell? w0 _ g1)).trans g1
   have hx2 := (hnx.cell (World.block_lt_of_cell? w0 _ g2)).trans g2
   have hx3 := (hnx.cell (World.block_lt_of_cell? w0 _ g3)).trans g3
   have hx4 := (hnx.cell (World.block_lt_of_cell? w0 _ g4)).trans g4
   have HY := Y0 hy1
   have HP := Y0 hpre
   clear g0 g1 g2 g3 g4 hpre hy1
   have hlen : pre.length < x.f4.length := by have := congrArg List.length HP.out; simp at this; omega
   obtain ⟨fn, tmps, assign, body, hy, hR⟩ := hY pre y (wr.alloc (.cells y.1.2 TN)) (hAb _ _ _ hJs) hlen
   rw [hy2] at hy hR
   have HR := Y0 hR
   clear hR hlen hy2
   gi_wp2
   refine ⟨fun h => by simp [Fence.wide] at h, ?_⟩
   refine HR.out.mono ?_
   rintro e W3 (⟨rfl, hJ3, hk3⟩ | ⟨rfl, hJx3⟩)
   ·gi_wp2
    go_roundw
    case rel => exact ⟨k + 1, pre ++ [y], by omega, by simp, by rw [List.map_append, HP.out, List.take_succ_eq_append_getElem hlt]; simp [HY.out], hJ3, (hnx.alloc hnx.size _).trans hk3⟩
    case measure => simp [intOf]; omega
   ·gi_wp2
    refine bodyPost_ret (results_none rfl _ _ _) rfl ?_
    exact ⟨⟨_, rfl⟩, .inr ⟨pre ++ [y], ⟨x.f4.drop (k + 1), by rw [List.map_append, HP.out]; simp [HY.out]⟩, hJx3⟩⟩
  ·obtain rfl : k = x.f4.length := by omega
   gi_wp2
   go_end0
   exact ⟨⟨_, rfl⟩, .inl ⟨pre, by rw [hpre, List.take_length], hJs⟩⟩
theorem results_one {P : Program} {fn : Func} {p : Tmp} {ty : TypeId} (h : fn.results = #[.cell p ty]) (tmps : Array Value) (w : World) (a : Addr) (v : Value) (hp : tmps[p]? = some (.pointer (some a))) (hl : (loadVar ty a).run P w = .ok v w) : (results fn tmps).run P w = .ok v w := by
 have hp' : tmps[p]?.getD undef = .pointer (some a) := by rw [hp]; rfl
 simp [results, h, hp', asAddr, hl]
theorem each_stops (n Bn : Nat) (w0 wl : World) (x : NodeS) (A : Option Addr) (c : Nat) (hreach : x.f4.length ≤ 140737488351232) (hC : k39.C w0 A x.f4.length x.f4)
  (hb : Below w0.heap.size w0 wl) (hbox : wl.cell? ⟨Bn, 4, none⟩ = some (.slice A x.f4.length c)) :
  SeqStopsK Fence.wide n Tryd.prog 85 #[.pointer (some ⟨Bn, 0, none⟩)] (fun y : NodeAt w0 x.f4 => #[.agg y.1.2]) (Below w0.heap.size) (fun ys => ys.map (·.1.1) = x.f4) (fun pre => pre.map (·.1.1) <+: x.f4) x.f4.length wl :=
 fun l J Jx W hW hJ _ hY h0 =>
  each1_in n l Bn w0 x A c J Jx hreach hC hY (fun pre V t h => hJ pre V _ none h (World.grownBy_alloc V _ none) (fun r e => by cases e)) W (below_then hb hb.size hW)
   ((hW.cell (World.block_lt_of_cell? wl _ hbox)).trans hbox) h0
theorem ownFrom_blk {β : Type} (B b : Nat) (o : Obj) (ho : o.isCells = true) : OwnFrom B (fun (_ : β) W => W.heap[b]? = some o) := fun s W W' row hs hg hr => by
 refine (hg.block b (Array.getElem?_eq_some_iff.1 hs).1 ?_).trans hs
 intro e
 obtain ⟨_, o', h1, h2⟩ := hr b e.symm
 rw [hs] at h1
 cases h1
 rw [ho] at h2
 cases h2
theorem range_each {g : Operand} {p : Tmp} {assign body : Code} {Q : Exit → Act → World → Prop} {a : Act} {w : World} (s Bn : Nat) (w0 : World) (x : NodeS) (A : Option Addr) (c : Nat)
  (hreach : x.f4.length ≤ 140737488351232) (hC : k39.C w0 A x.f4.length x.f4) (hb : Below w0.heap.size w0 w) (hbox : w.cell? ⟨Bn, 4, none⟩ = some (.slice A x.f4.length c))
  (hg : a.eval g = .func (.func 85) #[] #[.pointer (some ⟨Bn, 0, none⟩)])
  (I : List (NodeAt w0 x.f4) → World → Prop) (Ix : Code → List (NodeAt w0 x.f4) → World → Prop) (hI : OwnFrom w.heap.size I) (hIx : ∀ c, OwnFrom w.heap.size (Ix c)) (h0 : I [] w)
  (hassign : ∀ (l : Nat) (y : NodeAt w0 x.f4) (W : World) (K : Act → World → Prop),
   K { tmps := (a.tmps.setIfInBounds p (.agg y.1.2)).setIfInBounds s (.pointer (some ⟨W.heap.size, 0, none⟩)), defers := [] } (W.alloc (.cells y.1.2 TN)) →
   assign.wpIn (Fence.wide.inRound l) 3 Tryd.prog (Exit.then K (fun _ _ _ => False)) { tmps := a.tmps.setIfInBounds p (.agg y.1.2), defers := [] } W)
  (hbody : ∀ (l : Nat) (pre : List (NodeAt w0 x.f4)) (y : NodeAt w0 x.f4) (Bx : Nat) (W : World), w.heap.size ≤ l → (∃ r, W.heap[l]? = some (.loop r)) → I pre W → w.heap.size ≤ Bx → W.heap[Bx]? = some (.cells y.1.2 TN (0, 0)) → pre.length < x.f4.length →
   body.wpIn (Fence.wide.inRound l) 3 Tryd.prog (ownPostG w.heap.size (Below w0.heap.size) I Ix (pre ++ [y]) W) { tmps := (a.tmps.setIfInBounds p (.agg y.1.2)).setIfInBounds s (.pointer (some ⟨Bx, 0, none⟩)), defers := [] } W)
  (hIw : ∀ pre W, I pre W → w.heap.size ≤ W.heap.size)
  (hdone : ∀ (D : Nat) (ys : List (NodeAt w0 x.f4)) (W : World), w.heap.size ≤ D → ys.map (·.1.1) = x.f4 → I ys W → W.heap[D]? = some (.deferred (some [])) → Q .normal { a with defers := { target := .collected D, args := #[] } :: a.defers } W)
  (hstop : ∀ (D : Nat) (c : Code) (pre : List (NodeAt w0 x.f4)) (W : World), w.heap.size ≤ D → pre.map (·.1.1) <+: x.f4 → Ix c pre W → W.heap[D]? = some (.deferred (some [])) → c.wpIn Fence.wide 5 Tryd.prog Q { a with defers := { target := .collected D, args := #[] } :: a.defers } W) :
  (Code.rangeFunc g #[p] assign body).wpIn Fence.wide 5 Tryd.prog Q a w := by
 refine wpIn_rangeFunc_ownH (n := 5) rfl (by omega) hg trivial (fun args w => run_enter Tryd.func85 (by kernel_rfl) (by kernel_rfl) _ _) (each_stops 4 Bn w0 w x A c hreach hC hb hbox) belowK_t (belowK_b hb.size) (Below.refl _ _) (fun _ => rfl) I Ix hI hIx h0
  (fun y a' W => ∃ Bx, w.heap.size ≤ Bx ∧ W.heap[Bx]? = some (.cells y.1.2 TN (0, 0)) ∧ a' = { tmps := (a.tmps.setIfInBounds p (.agg y.1.2)).setIfInBounds s (.pointer (some ⟨Bx, 0, none⟩)), defers := [] })
  (fun y a' => ?hAx) ?assign ?body hdone hstop
 case hAx =>
  rintro u W W' row ⟨Bx, h1, h2, h3⟩ hg hr
  exact ⟨Bx, h1, ownFrom_blk w.heap.size Bx _ rfl u W W' row h2 hg hr, h3⟩
 case assign =>
  intro l pre y W K hi hK
  have e : (Array.zip #[p] #[Value.agg y.1.2]).foldl (fun (t : Array Value) (x : Tmp × Value) => t.setIfInBounds x.1 x.2) a.tmps = a.tmps.setIfInBounds p (.agg y.1.2) := by
   rw [show Array.zip #[p] #[Value.agg y.1.2] = #[(p, Value.agg y.1.2)] from by simp]
   rfl
  show Code.wpIn (Fence.wide.inRound l) 3 _ assign _ { tmps := (Array.zip #[p] #[Value.agg y.1.2]).foldl (fun (t : Array Value) (x : Tmp × Value) => t.setIfInBounds x.1 x.2) a.tmps, defers := [] } W
  rw [e]
  refine hassign l y W K ?_
  exact hK _ _ ((KeepsOthers.alloc _ _).from _) ((Below.refl w0.heap.size W).alloc (Nat.le_trans hb.size (hIw pre W hi)) _) (hI.alloc _ hi) ⟨_, hIw pre W hi, blk_new W _, rfl⟩
 case body =>
  rintro l pre y a' W hl hr hi ⟨Bx, h1, h2, rfl⟩ hlt
  exact hbody l pre y Bx W hl hr hi h1 h2 hlt
def aloneB (k : Int) (t : ByteArray) (n : Int) : Bool := (sexp_alone.f k t n 0 []).getD false
theorem alone_eq (k : Int) (t : ByteArray) (n a : Int) (l : List NodeS) : sexp_alone.f k t n a l = some (aloneB k t n) := by
 have e : ∀ a l, sexp_alone.f k t n a l = sexp_alone.f k t n 0 [] := fun _ _ => rfl
 have h : ∃ b, sexp_alone.f k t n 0 [] = some b := by
  unfold sexp_alone.f token_All.f
  simp only [Option.bind_some]
  split
  ·split
   ·split
    ·exact ⟨_, rfl⟩
    ·omega
   ·exact ⟨_, rfl⟩
  ·exact ⟨_, rfl⟩
 obtain ⟨b, hb⟩ := h
 rw [e, aloneB, hb, Option.getD_some]
mutual
def mayB : NodeS → Int → Bool
 | ⟨k, t, n, _, l⟩, d => if k = 0 ∨ k = 1 then decide (l.length = 0) && aloneB k t n else if k = 2 then decide (l.length = 0) && n == 0 else if k = 3 then decide (l.length = 0) && (n == 0 && t.toList == [46])
  else if k = 4 then mayL l (wrap64 (d + 1)) && (n == 0 && (t.toList == [] && decide (d < 16))) else false
def mayL : List NodeS → Int → Bool
 | [], _ => true
 | x :: r, d => mayB x d && mayL r d
end
mutual
def smallB : NodeS → Bool
 | ⟨_, _, _, _, l⟩ => decide (l.length ≤ 140737488351232) && smallL l
def smallL : List NodeS → Bool
 | [] => true
 | x :: r => smallB x && smallL r
end
theorem mayL_all (l : List NodeS) (d : Int) : mayL l d = l.all (mayB · d) := by
 induction l with
 | nil => rfl
 | cons x r ih => rw [mayL, ih, List.all_cons]
theorem smallL_all (l : List NodeS) : smallL l = l.all smallB := by
 induction l with
 | nil => rfl
 | cons x r ih => rw [smallL, ih, List.all_cons]
theorem small_open (x : NodeS) (h : smallB x = true) : x.f4.length ≤ 140737488351232 ∧ ∀ y ∈ x.f4, smallB y = true := by
 obtain ⟨k, t, n, a, l⟩ := x
 rw [smallB, Bool.and_eq_true, smallL_all] at h
 exact ⟨of_decide_eq_true h.1, List.all_eq_true.1 h.2⟩
theorem size_in (x y : NodeS) (h : y ∈ x.f4) : SizeOf.sizeOf y < SizeOf.sizeOf x := by
 obtain ⟨k, t, n, a, l⟩ := x
 have := List.sizeOf_lt_of_mem h
 simp only [S39.mk.sizeOf_spec]
 simp only at this
 omega
attribute [local go_sem] Oper.semAt_some
def MayPost (w : World) (b : Bool) (e : Ending) (w' : World) : Prop := e = .returned (.bool b) ∧ Below w.heap.size w w'
theorem keeps_below {B : Nat} {W W1 : World} (h : Below W.heap.size W W1) : KeepsFrom B W W1 := ⟨h.size, fun k o _ hk _ => (h.block k (Array.getElem?_eq_some_iff.1 hk).1).trans hk⟩
def MayAll {w : World} {l : List NodeS} (d : Int) (pre : List (NodeAt w l)) : Prop := ∀ y ∈ pre, mayB y.1.1 d = true
def MayNo {w : World} {l : List NodeS} (d : Int) (pre : List (NodeAt w l)) : Prop := ∃ y ∈ pre, mayB y.1.1 d = false
theorem may_end {w V : World} {D : Nat} {b : Bool} {tmps : Array Value} {R : Ending → World → Prop} (ht : tmps[4]? = some (.pointer (some ⟨w.heap.size + 1 + 1, 0, none⟩))) (hK : V.heap[D]? = some (.deferred (some [])))
  (k2 : V.heap[w.heap.size + 1 + 1]? = some (.cells #[.bool b] 4 (0, 0))) (kB : Below w.heap.size w V) (hD : w.heap.size ≤ D) (hR : ∀ V', Below w.heap.size w V' → R (.returned (.bool b)) V') :
  bodyPostM Fence.wide 5 Tryd.prog Tryd.f46 R .ret { tmps := tmps, defers := [{ target := .collected D, args := #[] }] } V := by
 refine ⟨by simp, .inl ⟨_, _, rfl, run_takeDeferred hK, ?_⟩⟩
 have k3 : (V.putObj D (.deferred none)).cell? ⟨w.heap.size + 1 + 1, 0, none⟩ = some (.bool b) := cell_kept ((blk_cell k2 0).trans rfl) (grownBy_putObj' _ D (.deferred none)) (fun r e => by cases e; exact ⟨_, hK, rfl⟩)
 exact ⟨_, results_one rfl _ _ ⟨w.heap.size + 1 + 1, 0, none⟩ (.bool b) ht (by go_simp), hR _ (kB.trans (belowK_b (w := w) (Nat.le_refl _) V D _ (.deferred none) hD hK rfl rfl))⟩
set_option maxRecDepth 100000 in
set_option maxHeartbeats 4000000 in
theorem may_list (t : ByteArray) (n a d : Int) (l : List NodeS) (A : Option Addr) (c : Nat) (w : World) (hl : l.length ≤ 140737488351232) (hC : k39.C w A l.length l) (hc : l.length ≤ c) (hG : GInv w)
  (ih : ∀ (y : NodeAt w l) (W : World), Below w.heap.size w W → Calls Tryd.prog 46 #[.agg y.1.2, .int .i64 (wrap64 (d + 1))] W (MayPost W (mayB y.1.1 (wrap64 (d + 1))))) :
  Calls Tryd.prog 46 #[.agg #[.int .i64 4, .string t, .int .i64 n, .int .i64 a, .slice A l.length c], .int .i64 d] w (MayPost w (mayB ⟨4, t, n, a, l⟩ d)) := by
 refine (callsIn_wide (n := 5)).1 ?_
 refine callsIn_of_wp_marks Tryd.func46 rfl trivial ?_ rfl
 simp only [Tryd.ntmps46, List.size_toArray, List.length_cons, List.length_nil, Nat.reduceAdd, Nat.reduceSub, Array.replicate_succ, Array.replicate_zero, List.push_toArray, List.append_toArray, List.nil_append, List.cons_append]
 have IH := Y0 ih
 have HC := Y0 hC
 have HL := Y0 hl
 have HG := Y0 hG
 clear ih hC hl hG
 gi_wp2_with (refine ⟨trivial, ?_⟩; gi_at_call 71; refine (each_any _ _ rfl _).mono ?_; rintro e w' ⟨rfl, rfl⟩)
 obtain ⟨b0, h0, h1, h2, h3, hz⟩ := allocs4 w (.cells #[.int .i64 4, .string t, .int .i64 n, .int .i64 a, .slice A l.length c] TN) (.cells #[.int .i64 d] 3) (.cells #[.bool false] 4) (.cells #[.int .i64 4, .string t, .int .i64 n, .int .i64 a, .slice A l.length c] TN)
 generalize ((((w.alloc (.cells #[.int .i64 4, .string t, .int .i64 n, .int .i64 a, .slice A l.length c] TN)).alloc (.cells #[.int .i64 d] 3)).alloc (.cells #[.bool false] 4)).alloc (.cells #[.int .i64 4, .string t, .int .i64 n, .int .i64 a, .slice A l.length c] TN)) = wl at *
 have HB0 := Y0 b0
 have HZ := Y0 hz
 clear b0 hz
 refine range_each 5 (w.heap.size + 1 + 1 + 1) w ⟨4, t, n, a, l⟩ A c HL.out HC.out HB0.out ((blk_cell h3 4).trans rfl) rfl
  (fun pre W => (W.heap[w.heap.size]? = some (.cells #[.int .i64 4, .string t, .int .i64 n, .int .i64 a, .slice A l.length c] TN (0, 0)) ∧ (W.heap[w.heap.size + 1]? = some (.cells #[.int .i64 d] 3 (0, 0)) ∧ W.heap[w.heap.size + 1 + 1]? = some (.cells #[.bool false] 4 (0, 0)))) ∧ (Below w.heap.size w W ∧ (wl.heap.size ≤ W.heap.size ∧ MayAll (wrap64 (d + 1)) pre)))
  (fun k pre W => k = .ret ∧ (W.heap[w.heap.size + 1 + 1]? = some (.cells #[.bool false] 4 (0, 0)) ∧ (Below w.heap.size w W ∧ MayNo (wrap64 (d + 1)) pre)))
  (OwnFrom.and (OwnFrom.and (ownFrom_blk _ _ _ rfl) (OwnFrom.and (ownFrom_blk _ _ _ rfl) (ownFrom_blk _ _ _ rfl))) (OwnFrom.and (ownFrom_below (Nat.le_refl _) HB0.out.size) (OwnFrom.and (fun s W W' row hs hg _ => Nat.le_trans hs hg.size) (ownFrom_pure _ (fun (pre : List (NodeAt w l)) => MayAll (wrap64 (d + 1)) pre)))))
  (fun k => OwnFrom.and (ownFrom_pure _ (fun _ => k = .ret)) (OwnFrom.and (ownFrom_blk _ _ _ rfl) (OwnFrom.and (ownFrom_below (Nat.le_refl _) HB0.out.size) (ownFrom_pure _ (fun (pre : List (NodeAt w l)) => MayNo (wrap64 (d + 1)) pre)))))
  ⟨⟨h0, h1, h2⟩, HB0.out, Nat.le_refl _, fun y hy => by cases hy⟩ ?assign ?body (fun _ _ h => h.2.2.1) ?done ?stop
 case assign =>
  intro lp y W K hK
  obtain ⟨Ay, cy, hy, _⟩ := node_cells y
  rw [hy] at hK ⊢
  gi_wp2
  exact hK
 case body =>
  rintro lp pre y Bx W hlp hr ⟨⟨k0, k1, k2⟩, kB, kz, kp⟩ hBx kx hlt
  obtain ⟨Ay, cy, hy, _⟩ := node_cells y
  rw [hy] at kx ⊢
  have x0 : W.cell? ⟨Bx, 0, none⟩ = some (.int .i64 y.1.1.f0) := (blk_cell kx 0).trans rfl
  have x1 : W.cell? ⟨Bx, 1, none⟩ = some (.string y.1.1.f1) := (blk_cell kx 1).trans rfl
  have x2 : W.cell? ⟨Bx, 2, none⟩ = some (.int .i64 y.1.1.f2) := (blk_cell kx 2).trans rfl
  have x3 : W.cell? ⟨Bx, 3, none⟩ = some (.int .i64 y.1.1.f3) := (blk_cell kx 3).trans rfl
  have x4 : W.cell? ⟨Bx, 4, none⟩ = some (.slice Ay y.1.1.f4.length cy) := (blk_cell kx 4).trans rfl
  have d0 : W.cell? ⟨w.heap.size + 1, 0, none⟩ = some (.int .i64 d) := (blk_cell k1 0).trans rfl
  have KI := Y0 (And.intro k0 (And.intro k1 k2))
  have KB := Y0 kB
  have KZ := Y0 kz
  have KP := Y0 kp
  have hIY := IH.out y W kB
  rw [hy] at hIY
  clear hy kx k0 k1 k2 kB kz kp h0 h1 h2 h3
  rcases hm : mayB y.1.1 (wrap64 (d + 1)) with _ | _
  ·rw [hm] at hIY
   have HIY := Y0 hIY
   have HM := Y0 hm
   clear hIY hm
   gi_wp2_with (refine ⟨trivial, ?_⟩; gi_at_call 46; refine (CallsIn.inRound lp (callsIn_wide.2 HIY.out)).mono ?_; rintro e W1 ⟨rfl, hB1⟩; have j2 := blk_below KI.out.2.2 hB1; have r0 := (blk_cell j2 0).trans (show _ = some (Value.bool false) from rfl); have r1 := blk_frozen j2 0)
   exact ⟨(keeps_below hB1).trans ((KeepsOthers.setCell _ _ _).from _), rfl, (blk_set j2 0 _).trans rfl, (below_step KB.out hB1).setCell (by show w.heap.size ≤ w.heap.size + 1 + 1; omega) _, y, by simp, HM.out⟩
  ·rw [hm] at hIY
   have HIY := Y0 hIY
   have HM := Y0 hm
   clear hIY hm
   gi_wp2_with (refine ⟨trivial, ?_⟩; gi_at_call 46; refine (CallsIn.inRound lp (callsIn_wide.2 HIY.out)).mono ?_; rintro e W1 ⟨rfl, hB1⟩)
   refine ⟨keeps_below hB1, hB1.mono KB.out.size, ⟨blk_below KI.out.1 hB1, blk_below KI.out.2.1 hB1, blk_below KI.out.2.2 hB1⟩, below_step KB.out hB1, Nat.le_trans KZ.out hB1.size, ?_⟩
   intro z hz
   rcases List.mem_append.1 hz with h | h
   ·exact KP.out z h
   ·rw [List.mem_singleton.1 h]; exact HM.out
 case done =>
  rintro D ys W hD hys ⟨⟨k0, k1, k2⟩, kB, kz, kp⟩ hK
  have HV : Aside0 (mayB ⟨4, t, n, a, l⟩ d = (n == 0 && (t.toList == [] && decide (d < 16)))) := ⟨by
   have e : mayL l (wrap64 (d + 1)) = true := by
    rw [mayL_all, List.all_eq_true]
    intro z hz
    rw [show l = ys.map (·.1.1) from hys.symm] at hz
    obtain ⟨y, hy, rfl⟩ := List.mem_map.1 hz
    exact kp y hy
   rw [mayB, if_neg (by decide), if_neg (by decide), if_neg (by decide), if_pos rfl, e, Bool.true_and]⟩
  have c1 : W.cell? ⟨w.heap.size, 1, none⟩ = some (.string t) := (blk_cell k0 1).trans rfl
  have c2 : W.cell? ⟨w.heap.size, 2, none⟩ = some (.int .i64 n) := (blk_cell k0 2).trans rfl
  have c3 : W.cell? ⟨w.heap.size + 1, 0, none⟩ = some (.int .i64 d) := (blk_cell k1 0).trans rfl
  have c4 : W.cell? ⟨w.heap.size + 1 + 1, 0, none⟩ = some (.bool false) := (blk_cell k2 0).trans rfl
  have c5 := blk_frozen k2 0
  have K2 := Y0 k2
  have KB := Y0 kB
  have HK := Y0 hK
  clear k0 k1 k2 kB kz kp hK h0 h1 h2 h3 hys
  have hE : ∀ (b : Bool) (tmps : Array Value), tmps[4]? = some (.pointer (some ⟨w.heap.size + 1 + 1, 0, none⟩)) → b = (n == 0 && (t.toList == [] && decide (d < 16))) →
    bodyPostM Fence.wide 5 Tryd.prog Tryd.f46 (MayPost w (mayB ⟨4, t, n, a, l⟩ d)) .ret { tmps := tmps, defers := [{ target := .collected D, args := #[] }] } (W.setCell ⟨w.heap.size + 1 + 1, 0, none⟩ (.bool b)) := fun b tmps ht hb =>
   may_end ht ((KeepsOthers.setCell W ⟨w.heap.size + 1 + 1, 0, none⟩ (.bool b)).same D _ HK.out rfl) ((blk_set (w := W) K2.out 0 (.bool b)).trans rfl) (KB.out.setCell (by show w.heap.size ≤ w.heap.size + 1 + 1; omega) _) (Nat.le_trans HB0.out.size hD) (fun V' h => ⟨by rw [HV.out, hb], h⟩)
  have HE := Y0 hE
  clear hE
  by_cases hn : n = 0
  ·have d1 : (n == 0) = true := beq_iff_eq.2 hn
   clear hn
   by_cases ht : t.toList = []
   ·have d2 : (t.toList == []) = true := beq_iff_eq.2 ht
    clear ht
    gi_wp2
    exact HE.out _ _ rfl (by rw [d1, d2]; rfl)
   ·have d2 : (t.toList == []) = false := beq_eq_false_iff_ne.2 ht
    clear ht
    gi_wp2
    exact HE.out _ _ rfl (by rw [d1, d2]; rfl)
  ·have d1 : (n == 0) = false := beq_eq_false_iff_ne.2 hn
   clear hn
   gi_wp2
   exact HE.out _ _ rfl (by rw [d1]; rfl)
 case stop =>
  rintro D k pre W hD hpre ⟨rfl, k2, kB, kp⟩ hK
  have HV : Aside0 (mayB ⟨4, t, n, a, l⟩ d = false) := ⟨by
   have e : mayL l (wrap64 (d + 1)) = false := by
    rw [mayL_all, List.all_eq_false]
    obtain ⟨y, hy, hm⟩ := kp
    exact ⟨y.1.1, y.2.1, by rw [hm]; decide⟩
   rw [mayB, if_neg (by decide), if_neg (by decide), if_neg (by decide), if_pos rfl, e, Bool.false_and]⟩
  have HE : Aside0 (∀ (tmps : Array Value), tmps[4]? = some (.pointer (some ⟨w.heap.size + 1 + 1, 0, none⟩)) →
    bodyPostM Fence.wide 5 Tryd.prog Tryd.f46 (MayPost w (mayB ⟨4, t, n, a, l⟩ d)) .ret { tmps := tmps, defers := [{ target := .collected D, args := #[] }] } W) := ⟨fun tmps ht =>
   may_end ht hK k2 kB (Nat.le_trans HB0.out.size hD) (fun V' h => ⟨by rw [HV.out], h⟩)⟩
  clear k2 kB kp hK hpre h0 h1 h2 h3
  gi_wp2
  exact HE.out _ rfl
theorem beq_lit {a b : Int} (h : a = b) : (a == b) = true := beq_iff_eq.2 h
theorem beq_no {a b : Int} (h : ¬ a = b) : (a == b) = false := beq_eq_false_iff_ne.2 h
set_option maxRecDepth 100000 in
set_option maxHeartbeats 4000000 in
theorem may_leaf (k : Int) (t : ByteArray) (n a d : Int) (l : List NodeS) (A : Option Addr) (c : Nat) (w : World) (hl : l.length ≤ 140737488351232) (hC : k39.C w A l.length l) (hc : l.length ≤ c) (hG : GInv w) (hk : ¬ k = 4) :
  Calls Tryd.prog 46 #[.agg #[.int .i64 k, .string t, .int .i64 n, .int .i64 a, .slice A l.length c], .int .i64 d] w (MayPost w (mayB ⟨k, t, n, a, l⟩ d)) := by
 have HC := Y0 hC
 have HG := Y0 hG
 have hV : Aside0 (mayB ⟨k, t, n, a, l⟩ d = if k = 0 ∨ k = 1 then decide (l.length = 0) && aloneB k t n else if k = 2 then decide (l.length = 0) && n == 0 else if k = 3 then decide (l.length = 0) && (n == 0 && t.toList == [46]) else false) := ⟨by
  rw [mayB, if_neg hk]⟩
 have hend : ∀ (b : Bool) (V : World) (tmps : Array Value), tmps[4]? = some (.pointer (some ⟨w.heap.size + 1 + 1, 0, none⟩)) → V.heap[w.heap.size + 1 + 1]? = some (.cells #[.bool b] 4 (0, 0)) → Below w.heap.size w V → b = mayB ⟨k, t, n, a, l⟩ d →
   bodyPost Tryd.prog Tryd.f46 (MayPost w (mayB ⟨k, t, n, a, l⟩ d)) .ret { tmps := tmps, defers := [] } V := fun b V tmps ht h2 hb e => by
  have k3 : V.cell? ⟨w.heap.size + 1 + 1, 0, none⟩ = some (.bool b) := (blk_cell h2 0).trans rfl
  exact bodyPost_ret (results_one rfl _ _ ⟨w.heap.size + 1 + 1, 0, none⟩ (.bool b) ht (by go_simp)) rfl ⟨by rw [e], hb⟩
 have HE := Y0 hend
 clear hend hC hG
 have n4 := beq_no hk
 have HL := Y0 (show (∀ h : l.length = 0, ((l.length : Int) == 0) = true) ∧ (∀ h : ¬ l.length = 0, ((l.length : Int) == 0) = false) from ⟨fun h => beq_iff_eq.2 (by omega), fun h => beq_eq_false_iff_ne.2 (by omega)⟩)
 by_cases h01 : k = 0 ∨ k = 1
 ·have e : Aside0 (mayB ⟨k, t, n, a, l⟩ d = (decide (l.length = 0) && aloneB k t n)) := ⟨by rw [hV.out, if_pos h01]⟩
  clear hV hk
  have n01 : (k == 0) = true ∨ ((k == 0) = false ∧ (k == 1) = true) := by
   rcases h01 with h | h
   ·exact .inl (beq_lit h)
   ·exact .inr ⟨beq_no (by omega), beq_lit h⟩
  clear h01
  by_cases hz : l.length = 0
  ·have z1 := HL.out.1 hz
   have e1 : Aside0 (aloneB k t n = mayB ⟨k, t, n, a, l⟩ d) := ⟨by rw [e.out, decide_eq_true hz, Bool.true_and]⟩
   clear hz e HL
   rcases n01 with n0 | ⟨n0, n1⟩
   all_goals
    go_enter Tryd.func46, Tryd.ntmps46
    go_wp2_with (go_at_call 70; refine (sexp_alone.calls k t n a A c l (aloneB k t n) _ (HG.out.below (allocs3 w _ _ _).1) (Kd.C_below HC.out (allocs3 w _ _ _).1) hc (alone_eq k t n a l)).mono ?_; rintro e W1 ⟨rfl, hB1⟩; have j2 := blk_below (allocs3 w _ _ _).2.2.2.1 hB1; have r0 := (blk_cell j2 0).trans (show _ = some (Value.bool false) from rfl); have r1 := blk_frozen j2 0)
    exact HE.out _ _ _ rfl ((blk_set j2 0 _).trans rfl) ((below_step (allocs3 w _ _ _).1 hB1).setCell (by show w.heap.size ≤ w.heap.size + 1 + 1; omega) _) e1.out
  ·have z1 := HL.out.2 hz
   have e1 : Aside0 (false = mayB ⟨k, t, n, a, l⟩ d) := ⟨by rw [e.out, decide_eq_false hz, Bool.false_and]⟩
   clear hz e HL
   rcases n01 with n0 | ⟨n0, n1⟩
   all_goals
    go_enter Tryd.func46, Tryd.ntmps46
    go_wp2
    exact HE.out _ _ _ rfl (allocs3 w _ _ _).2.2.2.1 (allocs3 w _ _ _).1 e1.out
 ·have n0 := beq_no (fun h => h01 (.inl h))
  have n1 := beq_no (fun h => h01 (.inr h))
  by_cases h2 : k = 2
  ·have n2 := beq_lit h2
   have e : Aside0 (mayB ⟨k, t, n, a, l⟩ d = (decide (l.length = 0) && n == 0)) := ⟨by rw [hV.out, if_neg h01, if_pos h2]⟩
   clear hV hk h01 h2
   by_cases hz : l.length = 0
   ·have z1 := HL.out.1 hz
    have e1 : Aside0 ((n == 0) = mayB ⟨k, t, n, a, l⟩ d) := ⟨by rw [e.out, decide_eq_true hz, Bool.true_and]⟩
    clear hz e HL
    go_enter Tryd.func46, Tryd.ntmps46
    go_wp2
    exact HE.out _ _ _ rfl (allocs3 w _ _ _).2.2.2.1 (allocs3 w _ _ _).1 e1.out
   ·have z1 := HL.out.2 hz
    have e1 : Aside0 (false = mayB ⟨k, t, n, a, l⟩ d) := ⟨by rw [e.out, decide_eq_false hz, Bool.false_and]⟩
    clear hz e HL
    go_enter Tryd.func46, Tryd.ntmps46
    go_wp2
    exact HE.out _ _ _ rfl (allocs3 w _ _ _).2.2.2.1 (allocs3 w _ _ _).1 e1.out
  ·have n2 := beq_no h2
   by_cases h3 : k = 3
   ·have n3 := beq_lit h3
    have e : Aside0 (mayB ⟨k, t, n, a, l⟩ d = (decide (l.length = 0) && (n == 0 && t.toList == [46]))) := ⟨by rw [hV.out, if_neg h01, if_neg h2, if_pos h3]⟩
    clear hV hk h01 h2 h3
    by_cases hz : l.length = 0
    ·have z1 := HL.out.1 hz
     by_cases hn : n = 0
     ·have n5 := beq_lit hn
      have e1 : Aside0 ((t.toList == [46]) = mayB ⟨k, t, n, a, l⟩ d) := ⟨by rw [e.out, decide_eq_true hz, n5, Bool.true_and, Bool.true_and]⟩
      clear hz e HL hn
      go_enter Tryd.func46, Tryd.ntmps46
      go_wp2
      exact HE.out _ _ _ rfl (allocs3 w _ _ _).2.2.2.1 (allocs3 w _ _ _).1 e1.out
     ·have n5 := beq_no hn
      have e1 : Aside0 (false = mayB ⟨k, t, n, a, l⟩ d) := ⟨by rw [e.out, decide_eq_true hz, n5, Bool.true_and, Bool.false_and]⟩
      clear hz e HL hn
      go_enter Tryd.func46, Tryd.ntmps46
      go_wp2
      exact HE.out _ _ _ rfl (allocs3 w _ _ _).2.2.2.1 (allocs3 w _ _ _).1 e1.out
    ·have z1 := HL.out.2 hz
     have e1 : Aside0 (false = mayB ⟨k, t, n, a, l⟩ d) := ⟨by rw [e.out, decide_eq_false hz, Bool.false_and]⟩
     clear hz e HL
     go_enter Tryd.func46, Tryd.ntmps46
     go_wp2
     exact HE.out _ _ _ rfl (allocs3 w _ _ _).2.2.2.1 (allocs3 w _ _ _).1 e1.out
   ·have n3 := beq_no h3
    have e : Aside0 (false = mayB ⟨k, t, n, a, l⟩ d) := ⟨by rw [hV.out, if_neg h01, if_neg h2, if_neg h3]⟩
    clear h01 h2 h3 hk hV HL
    go_enter Tryd.func46, Tryd.ntmps46
    go_wp2
    exact HE.out _ _ _ rfl (allocs3 w _ _ _).2.2.2.1 (allocs3 w _ _ _).1 e.out
theorem may_any : ∀ (N : Nat) (k : Int) (t : ByteArray) (n a d : Int) (l : List NodeS) (A : Option Addr) (c : Nat) (w : World), SizeOf.sizeOf (⟨k, t, n, a, l⟩ : NodeS) ≤ N → smallB ⟨k, t, n, a, l⟩ = true → k39.C w A l.length l → l.length ≤ c → GInv w →
  Calls Tryd.prog 46 #[.agg #[.int .i64 k, .string t, .int .i64 n, .int .i64 a, .slice A l.length c], .int .i64 d] w (MayPost w (mayB ⟨k, t, n, a, l⟩ d)) := by
 intro N
 induction N with
 | zero => intro k t n a d l A c w h; simp [S39.mk.sizeOf_spec] at h
 | succ N ihN =>
  intro k t n a d l A c w hN hs hC hc hG
  obtain ⟨s1, s2⟩ := small_open _ hs
  by_cases hk : k = 4
  ·subst hk
   refine may_list t n a d l A c w s1 hC hc hG ?_
   rintro ⟨⟨⟨k', t', n', a', l'⟩, cs⟩, hm, hK⟩ W hB
   obtain ⟨A4, c4, e, h1, h2⟩ := node_cells (⟨(⟨k', t', n', a', l'⟩, cs), hm, hK⟩ : NodeAt w l)
   have hz := size_in ⟨4, t, n, a, l⟩ ⟨k', t', n', a', l'⟩ hm
   dsimp only at e h1 h2 hz ⊢
   rw [e]
   exact ihN k' t' n' a' (wrap64 (d + 1)) l' A4 c4 W (by omega) (s2 _ hm) (Kd.C_below h2 hB) h1 (hG.below hB)
  ·exact may_leaf k t n a d l A c w s1 hC hc hG hk
def sexp_may.f (a0_0 : Int) (a0_1 : ByteArray) (a0_2 : Int) (a0_3 : Int) (l0_4 : List NodeS) (a1 : Int) : Option Bool := if smallB ⟨a0_0, a0_1, a0_2, a0_3, l0_4⟩ = true then some (mayB ⟨a0_0, a0_1, a0_2, a0_3, l0_4⟩ a1) else none
theorem sexp_may.calls (a0_0 : Int) (a0_1 : ByteArray) (a0_2 : Int) (a0_3 : Int) (A0_4 : Option Addr) (c0_4 : Nat) (l0_4 : List (S39)) (a1 : Int) (r : Bool) (w : World) (hG : GInv w) (hr0_4 : Kd.C k39 w A0_4 l0_4.length l0_4) (hc0_4 : l0_4.length ≤ c0_4) (h : sexp_may.f a0_0 a0_1 a0_2 a0_3 l0_4 a1 = some r) :
  Calls Tryd.prog 46 #[.agg #[.int .i64 a0_0, .string a0_1, .int .i64 a0_2, .int .i64 a0_3, .slice A0_4 l0_4.length c0_4], .int .i64 a1] w fun e w' => e = .returned (.bool r) ∧ Below w.heap.size w w' := by
 unfold sexp_may.f at h
 split at h
 ·rename_i hs
  obtain rfl := Option.some.inj h
  exact may_any _ _ _ _ _ _ _ _ _ _ (Nat.le_refl _) hs hr0_4 hc0_4 hG
 ·cases h
def sexp_May.f (a0_0 : Int) (a0_1 : ByteArray) (a0_2 : Int) (a0_3 : Int) (l0_4 : List (S39)) : Option (Bool) := (sexp_may.f a0_0 a0_1 a0_2 a0_3 l0_4 0).bind fun t320 => (some t320)
set_option maxHeartbeats 8000000 in
set_option maxRecDepth 100000 in
theorem sexp_May.calls (a0_0 : Int) (a0_1 : ByteArray) (a0_2 : Int) (a0_3 : Int) (A0_4 : Option Addr) (c0_4 : Nat) (l0_4 : List (S39)) (r : Bool) (w : World) (hG : GInv w) (hr0_4 : Kd.C k39 w A0_4 l0_4.length l0_4) (hc0_4 : l0_4.length ≤ c0_4) (h : sexp_May.f a0_0 a0_1 a0_2 a0_3 l0_4 = some r) :
  Calls Tryd.prog 25 #[.agg #[.int .i64 a0_0, .string a0_1, .int .i64 a0_2, .int .i64 a0_3, .slice A0_4 l0_4.length c0_4]] w fun e w' => e = .returned (.bool r) ∧ Below w.heap.size w w' := by
 have hu39 := Tryd.underlying39
 have HR0_4 := Y0 hr0_4
 have HC0_4 := Y0 hc0_4
 clear hr0_4 hc0_4
 have HB := Y0 (Below.refl w.heap.size w)
 have H : ((sexp_may.f a0_0 a0_1 a0_2 a0_3 l0_4 0).bind fun t320 => (some t320)) = some r := h
 clear h
 replace H := Y17.mp H
 obtain ⟨t320, A20, H⟩ := H
 try dsimp only at H
 have A2 := Y0 A20
 clear A20
 obtain rfl := Option.some.inj H
 go_enter Tryd.func25, Tryd.ntmps25
 go_wp2_with (first | ((with_reducible refine gate_dst (N := 1) rfl ?_); refine box_event ?hg (N := 1) ?hd (cs := #[.int .i64 a0_0, .string a0_1, .int .i64 a0_2, .int .i64 a0_3, .slice A0_4 l0_4.length c0_4]) (t := 39) ?hr ?_; (case hd => rfl); (case hg => rfl); (case hr => first | (go_simp; done) | (go_simp; rfl)); intro gb319 hg w3 hbox hb; have n0_ := Y0 (below_step (by repeat (with_reducible first | exact HB.out | apply Y3 | apply Y1 | apply Y2)) hb); have n1_ := Y0 (hbox); have n2_ := Y0 ((by rw [hg]; exact (below_size (by repeat (with_reducible first | exact HB.out | apply Y3 | apply Y1 | apply Y2))) : w.heap.size ≤ gb319)); have n3_ := Y0 ((by rw [hg]; exact (below_size (by repeat (with_reducible first | exact HB.out | apply Y3 | apply Y1 | apply Y2))) : w.heap.size ≤ gb319)); clear HB; have HB := n0_; have BK319 := n1_; have GW319 := n2_; have GE319 := n3_; clear n0_ n1_ n2_ n3_; clear hb hbox hg; have ⟨hcz4_0, hcz4_1, hcz4_2, hcz4_3, hcz4_4, hfz4_0, hfz4_1, hfz4_2, hfz4_3, hfz4_4⟩ := sq_box5 BK319.out) | ((with_reducible refine gate_callee (f := 46) rfl ?_); refine goesL_ (some 4) rfl rfl Tryd.func46 (by kernel_rfl) rfl #[.agg #[.int .i64 a0_0, .string a0_1, .int .i64 a0_2, .int .i64 a0_3, .slice A0_4 l0_4.length c0_4], .int .i64 0] rfl (by (try simp only [List.map_toArray, List.map_cons, List.map_nil]); first | done | rfl | (simp only [List.length_drop, List.length_take]; rfl)) ?_; (with_reducible refine (sexp_may.calls a0_0 a0_1 a0_2 a0_3 _ _ l0_4 0 t320 _ ?side1 ?side2 ?side3 A2.out).mono ?_); (case side1 => exact hG.below (by repeat (with_reducible first | exact HB.out | apply Y3 | apply Y1 | apply Y2 | refine Y4 ?_ GE319.out))); (case side2 => repeat (first | exact (Kd.C_below HR0_4.out HB.out) | (with_reducible refine Kd.C_alloc ?_ _) | (with_reducible refine Kd.C_drewN ?_ _) | (with_reducible refine Kd.C_drew ?_))); (case side3 => exact HC0_4.out); rintro e w5 ⟨rfl, hb⟩; refine ⟨_, rfl, ?_⟩; have n0_ := Y0 (blk_below (g := gb319) (o := .cells #[.int .i64 a0_0, .string a0_1, .int .i64 a0_2, .int .i64 a0_3, .slice A0_4 l0_4.length c0_4] 39 (0, 0)) (by (with_reducible repeat first | apply Y11 | apply Y13 | apply Y12); exact BK319.out) hb); have n1_ := Y0 (below_step (by repeat (with_reducible first | exact HB.out | apply Y3 | apply Y1 | apply Y2 | refine Y4 ?_ GE319.out)) hb); clear BK319; clear HB; have BK319 := n0_; have HB := n1_; clear n0_ n1_; (try clear hb); (try clear hb2); (try clear hk); (try clear hi)))
 go_ret
 exact ⟨by first | rfl | (simp [] <;> rfl) | (simp [*] <;> rfl), by repeat (with_reducible first | exact HB.out | apply Y3 | apply Y1 | apply Y2 | refine Y4 ?_ GE319.out)⟩
def preE (ts : List TokS) : List TokS ⊕ (Nat × Int) → List TokS ⊕ (Nat × Int)
 | .inl us => .inl (ts ++ us)
 | .inr e => .inr e
theorem lexL_step (f m p : Nat) (b : UInt8) (r : List UInt8) : lexL (f + 1) m p (b :: r) = match lex1 (b :: r) with
  | none => .inr (p, 4)
  | some (kd, t, v, n) => if m = 0 then .inr (p, 2) else
   preE [⟨kd, ⟨t.toArray⟩, v, p⟩] (lexL f (m - 1) (p + n + skipN false ((b :: r).drop n)) (((b :: r).drop n).drop (skipN false ((b :: r).drop n)))) := by
 rw [lexL]
 cases h : lex1 (b :: r) with
 | none => rfl
 | some y =>
  obtain ⟨kd, t, v, n⟩ := y
  dsimp only
  by_cases hm : m = 0
  ·rw [if_pos hm, if_pos hm]
  ·rw [if_neg hm, if_neg hm]
   cases lexL f (m - 1) (p + n + skipN false ((b :: r).drop n)) (((b :: r).drop n).drop (skipN false ((b :: r).drop n))) <;> rfl
theorem lexL_fuel : ∀ f g m p l, l.length < f → l.length < g → lexL f m p l = lexL g m p l := by
 intro f
 induction f with
 | zero => intro g m p l h _; omega
 | succ f ih =>
  intro g m p l hf hg
  obtain ⟨g, rfl⟩ : ∃ m, g = m + 1 := ⟨g - 1, by omega⟩
  cases l with
  | nil => rfl
  | cons b r =>
   rw [lexL_step, lexL_step]
   cases h : lex1 (b :: r) with
   | none => rfl
   | some x =>
    obtain ⟨kd, t, v, n⟩ := x
    obtain ⟨n1, n2⟩ := lex1_le _ _ _ _ _ h
    simp only
    split
    ·rfl
    ·rw [ih g]
     ·simp only [List.length_drop]; omega
     ·simp only [List.length_drop]; omega
def lx (m p : Nat) (l : List UInt8) : List TokS ⊕ (Nat × Int) := lexL (l.length + 1) m p l
def scan (m p : Nat) (l : List UInt8) : List TokS ⊕ (Nat × Int) := lx m (p + skipN false l) (l.drop (skipN false l))
theorem lx_nil (m p : Nat) : lx m p [] = .inl [] := rfl
theorem lx_cons (m p : Nat) (b : UInt8) (r : List UInt8) : lx m p (b :: r) = match lex1 (b :: r) with
  | none => .inr (p, 4)
  | some (kd, t, v, n) => if m = 0 then .inr (p, 2) else preE [⟨kd, ⟨t.toArray⟩, v, p⟩] (scan (m - 1) (p + n) ((b :: r).drop n)) := by
 unfold lx scan
 rw [lexL_step]
 cases h : lex1 (b :: r) with
 | none => rfl
 | some x =>
  obtain ⟨kd, t, v, n⟩ := x
  obtain ⟨n1, n2⟩ := lex1_le _ _ _ _ _ h
  simp only
  split
  ·rfl
  ·unfold lx
   rw [lexL_fuel _ ((((b :: r).drop n).drop (skipN false ((b :: r).drop n))).length + 1)]
   ·simp only [List.length_drop]; omega
   ·omega
theorem all_scan (l : List UInt8) : allL l = scan 1000 0 l := by
 unfold allL scan lx
 rw [Nat.zero_add]
 exact lexL_fuel _ _ _ _ _ (by simp only [List.length_drop]; omega) (by omega)
theorem skipN_t (x : UInt8) (r : List UInt8) : skipN true (x :: r) = 1 + skipN (x != 10) r := by simp only [skipN]
theorem skipN_f (x : UInt8) (r : List UInt8) : skipN false (x :: r) = if blankB x then 1 + skipN false r else if x = 47 ∧ r.head? = some 47 then 1 + skipN true r else 0 := by simp only [skipN]
theorem markL_app (l x : List UInt8) (m : UInt8) (n : Nat) (h : markL l = some (m, n)) : markL (l ++ x) = some (m, n) := by
 cases l with
 | nil => cases h
 | cons d r =>
  simp only [markL, List.cons_append] at h ⊢
  by_cases h1 : d = 34
  ·rw [if_pos h1] at h ⊢; exact h
  ·rw [if_neg h1] at h ⊢
   by_cases h2 : d = 92
   ·rw [if_pos h2] at h ⊢; exact h
   ·rw [if_neg h2] at h ⊢
    by_cases h3 : d = 110
    ·rw [if_pos h3] at h ⊢; exact h
    ·rw [if_neg h3] at h ⊢
     by_cases h4 : d = 120
     ·rw [if_pos h4] at h ⊢
      match r, h with
      | [], h => cases h
      | [a], h => cases h
      | a :: b :: r', h => exact h
     ·rw [if_neg h4] at h; cases h
theorem strL_app (x : List UInt8) : ∀ (f g : Nat) (l t : List UInt8) (n : Nat), strL f l = some (t, n) → f ≤ g → strL g (l ++ x) = some (t, n) := by
 intro f
 induction f with
 | zero => intro g l t n h; simp [strL] at h
 | succ f ih =>
  intro g l t n h hg
  obtain ⟨g, rfl⟩ : ∃ m, g = m + 1 := ⟨g - 1, by omega⟩
  cases l with
  | nil => simp [strL] at h
  | cons c r =>
   simp only [strL, List.cons_append] at h ⊢
   by_cases h1 : c = 34
   ·rw [if_pos h1] at h ⊢; exact h
   ·rw [if_neg h1] at h ⊢
    by_cases h2 : c = 92
    ·rw [if_pos h2] at h ⊢
     cases hm : markL r with
     | none => rw [hm] at h; cases h
     | some y =>
      obtain ⟨m, j⟩ := y
      rw [hm] at h
      obtain ⟨j1, j2⟩ := markL_le _ _ _ hm
      rw [markL_app r x m j hm]
      simp only at h ⊢
      obtain ⟨⟨t', n'⟩, h3, h4⟩ := Option.map_eq_some_iff.mp h
      rw [List.drop_append_of_le_length j2, ih g _ t' n' h3 (by omega)]
      rw [← h4]; rfl
    ·rw [if_neg h2] at h ⊢
     by_cases h3 : c < 32
     ·rw [if_pos h3] at h; cases h
     ·rw [if_neg h3] at h ⊢
      by_cases h4 : c = 127
      ·rw [if_pos h4] at h; cases h
      ·rw [if_neg h4] at h ⊢
       obtain ⟨⟨t', n'⟩, h5, h6⟩ := Option.map_eq_some_iff.mp h
       rw [ih g _ t' n' h5 (by omega), ← h6]; rfl
theorem scan_len : ∀ (d m p : Nat) (a : List UInt8) (ts : List TokS), a.length ≤ d → scan m p a = .inl ts → ts.length ≤ a.length ∧ ts.length ≤ m := by
 intro d
 induction d with
 | zero =>
  intro m p a ts hd h
  obtain rfl : a = [] := List.length_eq_zero_iff.mp (by omega)
  simp only [scan, skipN, List.drop_nil, lx_nil, Sum.inl.injEq] at h
  subst h; simp
 | succ d ih =>
  intro m p a ts hd h
  unfold scan at h
  have hk := skipN_le false a
  generalize skipN false a = k at h hk
  cases hl : a.drop k with
  | nil => rw [hl, lx_nil] at h; simp only [Sum.inl.injEq] at h; subst h; simp
  | cons c r =>
   have hz := congrArg List.length hl
   rw [List.length_drop, List.length_cons] at hz
   rw [hl, lx_cons] at h
   cases hx : lex1 (c :: r) with
   | none => rw [hx] at h; cases h
   | some y =>
    obtain ⟨kd, t, v, n⟩ := y
    obtain ⟨n1, n2⟩ := lex1_le _ _ _ _ _ hx
    rw [hx] at h
    simp only at h
    split at h
    ·cases h
    ·rename_i hm
     cases hs : scan (m - 1) (p + k + n) ((c :: r).drop n) with
     | inr e => rw [hs] at h; cases h
     | inl us =>
      rw [hs] at h
      simp only [preE, Sum.inl.injEq] at h
      subst h
      simp only [List.length_cons] at n2
      obtain ⟨g1, g2⟩ := ih _ _ _ _ (by simp only [List.length_drop, List.length_cons]; omega) hs
      simp only [List.length_drop, List.length_cons] at g1
      simp only [List.length_append, List.length_cons, List.length_nil]
      omega
theorem rd_at (xs : List TokS) (i : Nat) (t : TokS) (h : xs[i]? = some t) : rd_T29 xs (i : Int) = t := by
 unfold rd_T29
 rw [Int.toNat_natCast, List.getD_eq_getElem?_getD, h]
 rfl
theorem all_small (s : ByteArray) (h : s.size ≤ 5000) : token_All.f s = some (endL s [] (scan 1000 0 (bl s))) := by
 unfold token_All.f allF
 rw [if_neg (by omega), all_scan]
theorem bl_app (a b : ByteArray) : bl (a ++ b) = bl a ++ bl b := by simp [bl]
theorem scan_err : ∀ (d m p : Nat) (a : List UInt8) (q : Nat) (e : Int), a.length ≤ d → scan m p a = .inr (q, e) → (e = 4 ∨ e = 2) ∧ p ≤ q ∧ q < p + a.length := by
 intro d
 induction d with
 | zero =>
  intro m p a q e hd h
  obtain rfl : a = [] := List.length_eq_zero_iff.mp (by omega)
  simp only [scan, skipN, List.drop_nil, lx_nil] at h
  cases h
 | succ d ih =>
  intro m p a q e hd h
  unfold scan at h
  have hk := skipN_le false a
  generalize skipN false a = k at h hk
  cases hl : a.drop k with
  | nil => rw [hl, lx_nil] at h; cases h
  | cons c r =>
   have hz := congrArg List.length hl
   rw [List.length_drop, List.length_cons] at hz
   rw [hl, lx_cons] at h
   cases hx : lex1 (c :: r) with
   | none =>
    rw [hx] at h
    simp only [Sum.inr.injEq, Prod.mk.injEq] at h
    omega
   | some y =>
    obtain ⟨kd, t, v, n⟩ := y
    obtain ⟨n1, n2⟩ := lex1_le _ _ _ _ _ hx
    rw [hx] at h
    simp only at h
    split at h
    ·simp only [Sum.inr.injEq, Prod.mk.injEq] at h
     omega
    ·cases hs : scan (m - 1) (p + k + n) ((c :: r).drop n) with
     | inl us => rw [hs] at h; cases h
     | inr e' =>
      rw [hs] at h
      simp only [preE, Sum.inr.injEq] at h
      subst h
      simp only [List.length_cons] at n2
      have g := ih _ _ _ _ _ (by simp only [List.length_drop, List.length_cons]; omega) hs
      simp only [List.length_drop, List.length_cons] at g
      omega
theorem decDigits_small (u : Nat) (h : u < 10) : Lib.decDigits u = [UInt8.ofNat (48 + u)] := Lib.decDigits_one h
theorem decDigits_big (u : Nat) (h : ¬ u < 10) : Lib.decDigits u = Lib.decDigits (u / 10) ++ [UInt8.ofNat (48 + u % 10)] := by
 conv => lhs; rw [Lib.decDigits]
 rw [dif_neg h]
theorem parseM_append (M : Nat) (l : List UInt8) (d : UInt8) : ∀ acc a, Lib.parseUintM M acc l = .ok a → Lib.parseUintM M acc (l ++ [d]) = Lib.parseUintM M a [d] := by
 induction l with
 | nil => intro acc a h; simp only [Lib.parseUintM] at h; cases h; rfl
 | cons c r ih =>
  intro acc a h
  simp only [List.cons_append, Lib.parseUintM] at h ⊢
  by_cases h1 : 48 ≤ c.toNat ∧ c.toNat ≤ 57
  ·rw [if_pos h1] at h ⊢
   split at h
   ·cases h
   ·rename_i h2
    rw [if_neg h2]
    split at h
    ·cases h
    ·rename_i h3
     rw [if_neg h3]
     have := ih _ _ h
     simpa only [Lib.parseUintM] using this
  ·rw [if_neg h1] at h
   cases h
theorem digit_byte (n : Nat) (h : n < 10) : (UInt8.ofNat (48 + n)).toNat = 48 + n := by rw [UInt8.toNat_ofNat', Nat.mod_eq_of_lt (by omega)]
theorem parseM_dec (u : Nat) : u ≤ 9223372036854775808 → Lib.parseUintM 18446744073709551615 0 (Lib.decDigits u) = .ok u := by
 induction u using Nat.strongRecOn with
 | _ u ih =>
  intro hu
  by_cases h : u < 10
  ·rw [decDigits_small u h]
   simp only [Lib.parseUintM, digit_byte u h]
   rw [if_pos (by omega), if_neg (by omega), if_neg (by omega)]
   simp
  ·rw [decDigits_big u h, parseM_append _ _ _ _ _ (ih (u / 10) (by omega) (by omega))]
   have hm : u % 10 < 10 := Nat.mod_lt _ (by omega)
   simp only [Lib.parseUintM, digit_byte _ hm]
   rw [if_pos (by omega), if_neg (by omega), if_neg (by omega)]
   congr 1
   omega
theorem decDigits_head (u : Nat) : ∃ c r, Lib.decDigits u = c :: r ∧ 48 ≤ c.toNat ∧ c.toNat ≤ 57 := by
 induction u using Nat.strongRecOn with
 | _ u ih =>
  by_cases h : u < 10
  ·exact ⟨_, [], decDigits_small u h, by rw [digit_byte u h]; omega, by rw [digit_byte u h]; omega⟩
  ·obtain ⟨c, r, e, h1, h2⟩ := ih (u / 10) (by omega)
   exact ⟨c, r ++ [UInt8.ofNat (48 + u % 10)], by rw [decDigits_big u h, e]; rfl, h1, h2⟩
theorem decDigits_digits (u : Nat) : ∀ c ∈ Lib.decDigits u, 48 ≤ c.toNat ∧ c.toNat ≤ 57 := by
 induction u using Nat.strongRecOn with
 | _ u ih =>
  by_cases h : u < 10
  ·rw [decDigits_small u h]
   intro c hc
   simp only [List.mem_singleton] at hc
   subst hc
   rw [digit_byte u h]; omega
  ·rw [decDigits_big u h]
   intro c hc
   rcases List.mem_append.mp hc with hc | hc
   ·exact ih (u / 10) (by omega) c hc
   ·simp only [List.mem_singleton] at hc
    subst hc
    have hm : u % 10 < 10 := Nat.mod_lt _ (by omega)
    rw [digit_byte _ hm]; omega
theorem parse_itoa (n : Int) (h0 : -9223372036854775808 ≤ n) (h1 : n ≤ 9223372036854775807) : Lib.parseIntB 64 (Lib.itoa n) = .ok n := by
 have e63 : (2 : Nat) ^ (64 - 1) = 9223372036854775808 := by decide
 have e64 : (2 : Nat) ^ 64 - 1 = 18446744073709551615 := by decide
 by_cases hn : n < 0
 ·obtain ⟨u, hu⟩ : ∃ u : Nat, n = -(u : Int) := ⟨n.natAbs, by omega⟩
  subst hu
  rw [Lib.itoa_neg u (by omega)]
  obtain ⟨c, r, hc, hc1, hc2⟩ := decDigits_head u
  have hp := parseM_dec u (by omega)
  unfold Lib.parseIntB
  have h45 : (45 : UInt8).toNat = 45 := rfl
  simp only [h45, or_true, if_true, Lib.parseUintB, e63, e64, hp]
  rw [if_neg (by rw [hc]; simp)]
  simp only [not_true_eq_false, false_and, if_false, true_and]
  rw [if_neg (by omega)]
 ·obtain ⟨u, hu⟩ : ∃ u : Nat, n = (u : Int) := ⟨n.toNat, by omega⟩
  subst hu
  rw [Lib.itoa_nonneg u]
  obtain ⟨c, r, hc, hc1, hc2⟩ := decDigits_head u
  have hp := parseM_dec u (by omega)
  rw [hc] at hp ⊢
  unfold Lib.parseIntB
  have n43 : ¬ (c.toNat = 43 ∨ c.toNat = 45) := by omega
  have n45 : ¬ (c.toNat = 45) := by omega
  simp only [n43, if_false, Lib.parseUintB, e63, e64]
  rw [if_neg (by simp), hp]
  simp only [n45, not_false_eq_true, true_and, false_and, if_false]
  rw [if_neg (by omega)]
theorem numOk_itoa (n : Int) (h0 : -9223372036854775808 ≤ n) (h1 : n ≤ 9223372036854775807) : numOk (Lib.itoa n) = true := by
 unfold numOk; rw [parse_itoa n h0 h1]; simp
theorem sb_size : (Tryd.prog.info? 65).map (·.size) = some 2 := by kernel_rfl
set_option maxHeartbeats 1000000 in
set_option maxRecDepth 100000 in
theorem sb_copyCheck_used (b : Nat) (w : World) (h0 : w.cell? ⟨b, 0, none⟩ = some (.pointer (some ⟨b, 0, none⟩))) :
  Calls Tryd.prog 68 #[.pointer (some ⟨b, 0, none⟩)] w fun e w' => e = .returned (.tuple #[]) ∧ w' = w := by
 obtain ⟨j, hj, _⟩ := Option.map_eq_some_iff.1 sb_size
 go_enter Tryd.func68, Tryd.ntmps68
 go_wp2
 rw [Lib.run_neq_ptr_same w _ Tryd.underlying62 hj]
 go_wp2
 go_end0
 exact ⟨rfl, rfl⟩
set_option maxHeartbeats 1000000 in
set_option maxRecDepth 100000 in
theorem sb_copyCheck_fresh (b : Nat) (w : World) (h0 : w.cell? ⟨b, 0, none⟩ = some (.pointer none)) (hsh : w.shape? b = some (65, 2)) (hfz : w.frozen? ⟨b, 0, none⟩ = false) :
  Calls Tryd.prog 68 #[.pointer (some ⟨b, 0, none⟩)] w fun e w' => e = .returned (.tuple #[]) ∧ w' = w.setCell ⟨b, 0, none⟩ (.pointer (some ⟨b, 0, none⟩)) := by
 obtain ⟨j, hj, hjs⟩ := Option.map_eq_some_iff.1 sb_size
 have lies := Tryd.Builder_Extra_169.liesBuilder
 go_enter Tryd.func68, Tryd.ntmps68
 go_wp2
 rw [Lib.run_to_unsafe w ⟨b, 0, none⟩ Tryd.underlying62 Tryd.underlying102 hj (by rw [hjs]; decide) hsh (Nat.zero_lt_succ 1)]
 simp only [Result.andThen]
 rw [Oper.upon_value]
 go_wp2
 rw [run_callFunc_extern Tryd.func80 (by kernel_rfl) (by kernel_rfl) (by kernel_rfl) (e := Extern.AbiNoEscape.same) (by kernel_rfl)]
 rw [Lib.run_noEscape]
 simp only [Result.andThen]
 rw [Oper.upon_value]
 go_wp2
 rw [Lib.run_from_unsafe w ⟨b, 0, none⟩ Tryd.underlying102 Tryd.underlying62 hj hsh lies]
 simp only [Result.andThen]
 rw [Oper.upon_value]
 go_wp2
 go_end0
 exact ⟨rfl, rfl⟩
theorem sb_copyCheck (B b : Nat) (bs : List Value) (w : World) (h : Lib.IsBuilder 65 5 B b bs w) :
  Calls Tryd.prog 68 #[.pointer (some ⟨b, 0, none⟩)] w fun e w' => e = .returned (.tuple #[]) ∧ (Lib.BuilderAt 65 5 B b (.pointer (some ⟨b, 0, none⟩)) bs w' ∧ Below B w w') := by
 rcases h with h | h
 ·refine (sb_copyCheck_fresh b w h.cell0 h.shape h.frozen0).mono ?_
  rintro e w' ⟨rfl, rfl⟩
  exact ⟨rfl, h.used _, (Below.refl B w).setCell (p := ⟨b, 0, none⟩) h.1 _⟩
 ·refine (sb_copyCheck_used b w h.cell0).mono ?_
  rintro e w' ⟨rfl, rfl⟩
  exact ⟨rfl, h, Below.refl B _⟩
theorem sb_infoByte : (Tryd.prog.info? 5).map (fun i => (i.zero, i.size, i.bytes)) = some (some (.int .u8 0), 1, 1) := by kernel_rfl
set_option maxHeartbeats 2000000 in
set_option maxRecDepth 100000 in
theorem sb_WriteByte (B b : Nat) (bs : List Value) (c : Int) (w : World) (h : Lib.IsBuilder 65 5 B b bs w) (hlen : bs.length + 1 ≤ 140737488355328) (hBw : B ≤ w.heap.size) :
  Calls Tryd.prog 41 #[.pointer (some ⟨b, 0, none⟩), .int .u8 c] w fun e w' => e = .returned .nilIface ∧ (Lib.BuilderAt 65 5 B b (.pointer (some ⟨b, 0, none⟩)) (bs ++ [.int .u8 c]) w' ∧ Below B w w') := by
 obtain ⟨i0, hi, hz0, hz1, hz2⟩ := info_parts sb_infoByte
 go_enter Tryd.func41, Tryd.ntmps41
 go_wp2_with (go_at_call 68; refine (sb_copyCheck B b bs _ h).mono ?_)
 rintro e w1 ⟨rfl, h1, hb1⟩
 obtain ⟨hB, v, hbk, hown, hne⟩ := h1
 have c0 : w1.cell? ⟨b, 0, none⟩ = some (.pointer (some ⟨b, 0, none⟩)) := by rw [Lib.cell_of_heap hbk]; rfl
 have c1 : w1.cell? ⟨b, 1, none⟩ = some v := by rw [Lib.cell_of_heap hbk]; rfl
 go_wp2_with (at_builtin; refine wpList_append_own _ rfl _ _ 63 rfl B 5 i0 (.int .u8 0) 1 1 Tryd.underlying63 hi hz0 hz1 hz2 rfl (by decide) _ _ _ rfl (hown.alloc _) ⟨w1.heap.size, 0, none⟩ 1 1 [.int .u8 c] rfl rfl ?c1 ?c2 ?c3 ?c4 ?c5 ?_)
 case c1 =>
  intro j u hj
  match j, hj with
  | 0, hj => simp at hj; subst hj; simp [Addr.add]
 case c2 => intro u hu; simp at hu; subst hu; rfl
 case c3 => unfold maxLen; omega
 case c4 => omega
 case c5 => have := hb1.size; simp; omega
 intro v' w2 hown' hgrow _
 have hlt : b < w1.heap.size := by
  rcases Nat.lt_or_ge b w1.heap.size with h' | h'
  ·exact h'
  ·simp [Array.getElem?_eq_none h'] at hbk
 have hb2 : w2.heap[b]? = some (.cells #[.pointer (some ⟨b, 0, none⟩), v] 65 (0, 0)) := by
  rw [hgrow.block b (by simp; omega) (fun e => hne e.symm), Lib.alloc_old w1 _ b hlt]
  exact hbk
 have d0 : w2.cell? ⟨b, 0, none⟩ = some (.pointer (some ⟨b, 0, none⟩)) := by rw [Lib.cell_of_heap hb2]; rfl
 have d1 : w2.cell? ⟨b, 1, none⟩ = some v := by rw [Lib.cell_of_heap hb2]; rfl
 have f1 : w2.frozen? ⟨b, 1, none⟩ = false := Lib.frozen_of_heap hb2 1
 obtain ⟨g, cap, rfl⟩ : ∃ g cap, v' = .slice (some ⟨g, 0, none⟩) (bs.length + 1) cap := by
  rcases hown'.2 with ⟨_, h0⟩ | ⟨g, cap, cur, hv, _⟩
  ·omega
  ·exact ⟨g, cap, hv⟩
 go_wp2
 go_ret
 refine ⟨rfl, ?_, ?_⟩
 ·exact Lib.BuilderAt.put (T := 65) (e := 5) hB hb2 (bs' := bs ++ [.int .u8 c]) (by simpa using hown') (by decide)
 ·exact ((hb1.alloc (by have := hb1.size; omega) _).grown hgrow (by have := hb1.size; simp; omega) (fun k hk => (hown.lt k hk).1)).setCell (p := ⟨b, 1, none⟩) hB _
set_option maxHeartbeats 2000000 in
set_option maxRecDepth 100000 in
theorem sb_WriteString (B b : Nat) (bs : List Value) (s : ByteArray) (w : World) (h : Lib.IsBuilder 65 5 B b bs w) (hlen : bs.length + s.size ≤ 140737488355328) (hBw : B ≤ w.heap.size) :
  Calls Tryd.prog 42 #[.pointer (some ⟨b, 0, none⟩), .string s] w fun e w' => e = .returned (.tuple #[.int .i64 s.size, .nilIface]) ∧ (Lib.BuilderAt 65 5 B b (.pointer (some ⟨b, 0, none⟩)) (bs ++ Lib.strCells s) w' ∧ Below B w w') := by
 obtain ⟨i0, hi, hz0, hz1, hz2⟩ := info_parts sb_infoByte
 go_enter Tryd.func42, Tryd.ntmps42
 go_wp2_with (go_at_call 68; refine (sb_copyCheck B b bs _ h).mono ?_)
 rintro e w1 ⟨rfl, h1, hb1⟩
 obtain ⟨hB, v, hbk, hown, hne⟩ := h1
 have c0 : w1.cell? ⟨b, 0, none⟩ = some (.pointer (some ⟨b, 0, none⟩)) := by rw [Lib.cell_of_heap hbk]; rfl
 have c1 : w1.cell? ⟨b, 1, none⟩ = some v := by rw [Lib.cell_of_heap hbk]; rfl
 go_wp2_with (at_builtin; refine Lib.wpList_append_own_string _ rfl _ _ 63 9 rfl B 5 i0 Tryd.underlying63 Tryd.underlying9 hi hz0 hz1 hz2 _ _ _ rfl hown s rfl ?c3 ?c4 ?c5 ?_)
 case c3 => unfold maxLen; omega
 case c4 => omega
 case c5 => have := hb1.size; omega
 intro v' w2 hown' hgrow _
 have hlt : b < w1.heap.size := by
  rcases Nat.lt_or_ge b w1.heap.size with h' | h'
  ·exact h'
  ·simp [Array.getElem?_eq_none h'] at hbk
 have hb2 : w2.heap[b]? = some (.cells #[.pointer (some ⟨b, 0, none⟩), v] 65 (0, 0)) := by
  rw [hgrow.block b hlt (fun e => hne e.symm)]
  exact hbk
 have d0 : w2.cell? ⟨b, 0, none⟩ = some (.pointer (some ⟨b, 0, none⟩)) := by rw [Lib.cell_of_heap hb2]; rfl
 have d1 : w2.cell? ⟨b, 1, none⟩ = some v := by rw [Lib.cell_of_heap hb2]; rfl
 have f1 : w2.frozen? ⟨b, 1, none⟩ = false := Lib.frozen_of_heap hb2 1
 obtain ⟨ao, n', cap, rfl⟩ : ∃ ao n' cap, v' = .slice ao n' cap := by
  rcases hown'.2 with ⟨hv, _⟩ | ⟨g, cap, cur, hv, _⟩
  ·exact ⟨_, _, _, hv⟩
  ·exact ⟨_, _, _, hv⟩
 go_wp2
 go_ret2
 refine ⟨rfl, ?_, ?_⟩
 ·exact Lib.BuilderAt.put (T := 65) (e := 5) hB hb2 (bs' := bs ++ Lib.strCells s) (by simpa [Lib.strCells_length] using hown') (by decide)
 ·exact (hb1.grown hgrow (by have := hb1.size; omega) (fun k hk => (hown.lt k hk).1)).setCell (p := ⟨b, 1, none⟩) hB _
def hexB (n : Nat) : UInt8 := if n < 10 then UInt8.ofNat (48 + n) else UInt8.ofNat (87 + n)
def quote1 (c : UInt8) : List UInt8 := if c = 34 ∨ c = 92 then [92, c] else if c = 10 then [92, 110] else if c < 32 ∨ 126 < c then [92, 120, hexB (c.toNat / 16), hexB (c.toNat % 16)] else [c]
def quoteL (l : List UInt8) : List UInt8 := 34 :: (l.flatMap quote1 ++ [34])
def token_Quote.f (a0 : ByteArray) : Option (ByteArray) := if a0.size ≤ 1000000000000 then some ⟨(quoteL a0.data.toList).toArray⟩ else none
theorem quote1_nat (c : UInt8) : quote1 c = if c.toNat = 34 ∨ c.toNat = 92 then [92, c] else if c.toNat = 10 then [92, 110] else if c.toNat < 32 ∨ 126 < c.toNat then [92, 120, hexB (c.toNat / 16), hexB (c.toNat % 16)] else [c] := by
 have e1 : c = 34 ↔ c.toNat = 34 := by rw [← UInt8.toNat_inj]; rfl
 have e2 : c = 92 ↔ c.toNat = 92 := by rw [← UInt8.toNat_inj]; rfl
 have e3 : c = 10 ↔ c.toNat = 10 := by rw [← UInt8.toNat_inj]; rfl
 have e4 : c < 32 ↔ c.toNat < 32 := by rw [UInt8.lt_iff_toNat_lt]; rfl
 have e5 : 126 < c ↔ 126 < c.toNat := by rw [UInt8.lt_iff_toNat_lt]; rfl
 unfold quote1
 simp only [e1, e2, e3, e4, e5]
theorem hex_at (k : Nat) (h : k < (⟨#[48, 49, 50, 51, 52, 53, 54, 55, 56, 57, 97, 98, 99, 100, 101, 102]⟩ : ByteArray).size) : (⟨#[48, 49, 50, 51, 52, 53, 54, 55, 56, 57, 97, 98, 99, 100, 101, 102]⟩ : ByteArray)[k] = hexB k := by
 have h16 : k < 16 := h
 have all : ∀ j : Fin 16, (⟨#[48, 49, 50, 51, 52, 53, 54, 55, 56, 57, 97, 98, 99, 100, 101, 102]⟩ : ByteArray)[j.val]'(j.isLt) = hexB j.val := by decide
 exact all ⟨k, h16⟩
theorem quote1_length (c : UInt8) : (quote1 c).length ≤ 4 := by
 unfold quote1; repeat' split
 all_goals simp
theorem flat_length (l : List UInt8) : (l.flatMap quote1).length ≤ 4 * l.length := by
 induction l with
 | nil => simp
 | cons c l ih => have := quote1_length c; simp only [List.flatMap_cons, List.length_append, List.length_cons]; omega
theorem take_snoc (s : ByteArray) (k : Nat) (h : k < s.size) : s.data.toList.take (k + 1) = s.data.toList.take k ++ [s[k]] := by
 rw [List.take_succ_eq_append_getElem (by simpa using h)]; rfl
def qAcc (s : ByteArray) (i : Nat) : List UInt8 := 34 :: (s.data.toList.take i).flatMap quote1
theorem qAcc_succ (s : ByteArray) (i : Nat) (h : i < s.size) : qAcc s (i + 1) = qAcc s i ++ quote1 s[i] := by
 unfold qAcc; rw [take_snoc s i h]; simp
theorem qAcc_length (s : ByteArray) (i : Nat) (h : i ≤ s.size) : (qAcc s i).length ≤ 4 * i + 1 := by
 unfold qAcc
 have h1 := flat_length (s.data.toList.take i)
 have h2 : (s.data.toList.take i).length ≤ i := List.length_take_le _ _
 simp only [List.length_cons]; omega
set_option maxHeartbeats 4000000 in
set_option maxRecDepth 100000 in
theorem token_Quote.calls (a0 : ByteArray) (r : ByteArray) (w : World) (h : token_Quote.f a0 = some r) :
  Calls Tryd.prog 19 #[.string a0] w fun e w' => e = .returned (.string r) ∧ Below w.heap.size w w' := by
 unfold token_Quote.f at h
 split at h
 ·rename_i hs
  obtain rfl := Option.some.inj h
  clear h
  have HF := Y0 (Lib.fresh_isBuilder 65 5 w)
  have HB := Y0 (below_alloc (Below.refl w.heap.size w) (.cells #[.pointer none, .slice none 0 0] 65))
  go_enter Tryd.func19, Tryd.ntmps19
  go_wp2_with (go_at_call 41; refine (sb_WriteByte _ _ _ _ _ HF.out ?s1 ?s2).mono ?_; (case s1 => simp); (case s2 => exact HB.out.size); rintro e w1 ⟨rfl, h1, hb⟩; have n0_ := Y0 h1; have n1_ := Y0 (HB.out.trans hb); clear HF HB hb h1; have HD := n0_; have HB := n1_; clear n0_ n1_)
  have hl0 := qAcc_length a0 0 (by omega)
  go_loopg [9] a0.size (fun n v9 W => ∃ i : Nat, v9 = .int .i64 i ∧ Aside0 (i + n = a0.size) ∧ Aside0 (Lib.BuilderAt 65 5 w.heap.size w.heap.size (.pointer (some ⟨w.heap.size, 0, none⟩)) (Lib.byteCells (qAcc a0 i)) W) ∧ Aside0 (Below w.heap.size w W))
  case atStart => exact ⟨0, rfl, ⟨by omega⟩, ⟨by simpa [qAcc, Lib.byteCells] using HD.out⟩, ⟨HB.out⟩⟩
  case round =>
   clear HD HB hl0
   obtain ⟨i, rfl, HN, HD, HB⟩ := hrel
   have hle : i ≤ a0.size := by have := HN.out; omega
   have hl := qAcc_length a0 i hle
   by_cases hlt : i < a0.size
   rotate_left
   ·obtain rfl : i = a0.size := by omega
    have HD2 := Y0 (show qAcc a0 a0.size ++ [34] = quoteL a0.data.toList by unfold qAcc quoteL; rw [List.take_of_length_le (by simp)]; rfl)
    have hd : decide ((a0.size : Int) < (a0.size : Int)) = false := decide_eq_false (by omega)
    go_wp2_with (first | (go_at_call 41; refine (sb_WriteByte _ _ _ _ _ (.inr HD.out) ?s1 ?s2).mono ?_; (case s1 => simp [Lib.byteCells, Lib.strCells]; omega); (case s2 => exact HB.out.size); rintro e w2 ⟨rfl, h1, hb⟩; have n0_ := Y0 h1; have n1_ := Y0 (HB.out.trans hb); clear HD HB hb h1; have HD := n0_; have HB := n1_; clear n0_ n1_) | (go_at_call 43; refine (Tryd.Builder_String_any _ _ (quoteL a0.data.toList) _ (.inr ?s1) HB.out.size).mono ?_; (case s1 => have := HD.out; rw [← HD2.out, Lib.byteCells_append]; exact this); rintro e w3 ⟨rfl, hb⟩))
    go_ret
    exact ⟨rfl, HB.out.trans hb⟩
   have HS := Y0 (qAcc_succ a0 i hlt)
   have hc := Y0 (a0[i].toNat_lt)
   have hbd : (a0[i].toNat : Int) ≤ 255 := by have := hc.out; omega
   cases gk with
   | zero => exact absurd HN.out (by omega)
   | succ k1 =>
    by_cases c34 : a0[i].toNat = 34
    ·have b1 : ((a0[i].toNat : Int) == 34) = true := by simp [c34]
     have HQ := Y0 (show quote1 a0[i] = [92, a0[i]] by rw [quote1_nat, if_pos (.inl c34)])
     clear c34
     go_wp2_with (first | (go_at_call 41; refine (sb_WriteByte _ _ _ _ _ (.inr HD.out) ?s1 ?s2).mono ?_; (case s1 => simp [Lib.byteCells, Lib.strCells]; omega); (case s2 => exact HB.out.size); rintro e w2 ⟨rfl, h1, hb⟩; have n0_ := Y0 h1; have n1_ := Y0 (HB.out.trans hb); clear HD HB hb h1; have HD := n0_; have HB := n1_; clear n0_ n1_) | (go_at_call 42; refine (sb_WriteString _ _ _ _ _ (.inr HD.out) ?s1 ?s2).mono ?_; (case s1 => rw [Lib.byteCells_length]; show _ + 2 ≤ _; omega); (case s2 => exact HB.out.size); rintro e w2 ⟨rfl, h1, hb⟩; have n0_ := Y0 h1; have n1_ := Y0 (HB.out.trans hb); clear HD HB hb h1; have HD := n0_; have HB := n1_; clear n0_ n1_))
     go_roundg k1
     case measure => omega
     case rel => exact ⟨i + 1, by go_num, ⟨by have := HN.out; omega⟩, ⟨by rw [HS.out, HQ.out]; simpa [Lib.byteCells, Lib.strCells] using HD.out⟩, ⟨HB.out⟩⟩
    by_cases c92 : a0[i].toNat = 92
    ·have b1 : ((a0[i].toNat : Int) == 34) = false := by rw [beq_eq_false_iff_ne]; omega
     have b2 : ((a0[i].toNat : Int) == 92) = true := by simp [c92]
     have HQ := Y0 (show quote1 a0[i] = [92, a0[i]] by rw [quote1_nat, if_pos (.inr c92)])
     clear c34 c92
     go_wp2_with (first | (go_at_call 41; refine (sb_WriteByte _ _ _ _ _ (.inr HD.out) ?s1 ?s2).mono ?_; (case s1 => simp [Lib.byteCells, Lib.strCells]; omega); (case s2 => exact HB.out.size); rintro e w2 ⟨rfl, h1, hb⟩; have n0_ := Y0 h1; have n1_ := Y0 (HB.out.trans hb); clear HD HB hb h1; have HD := n0_; have HB := n1_; clear n0_ n1_) | (go_at_call 42; refine (sb_WriteString _ _ _ _ _ (.inr HD.out) ?s1 ?s2).mono ?_; (case s1 => rw [Lib.byteCells_length]; show _ + 2 ≤ _; omega); (case s2 => exact HB.out.size); rintro e w2 ⟨rfl, h1, hb⟩; have n0_ := Y0 h1; have n1_ := Y0 (HB.out.trans hb); clear HD HB hb h1; have HD := n0_; have HB := n1_; clear n0_ n1_))
     go_roundg k1
     case measure => omega
     case rel => exact ⟨i + 1, by go_num, ⟨by have := HN.out; omega⟩, ⟨by rw [HS.out, HQ.out]; simpa [Lib.byteCells, Lib.strCells] using HD.out⟩, ⟨HB.out⟩⟩
    by_cases c10 : a0[i].toNat = 10
    ·have b1 : ((a0[i].toNat : Int) == 34) = false := by rw [beq_eq_false_iff_ne]; omega
     have b2 : ((a0[i].toNat : Int) == 92) = false := by rw [beq_eq_false_iff_ne]; omega
     have b3 : ((a0[i].toNat : Int) == 10) = true := by simp [c10]
     have HQ := Y0 (show quote1 a0[i] = [92, 110] by rw [quote1_nat, if_neg (by omega), if_pos c10])
     clear c34 c92 c10
     go_wp2_with (first | (go_at_call 41; refine (sb_WriteByte _ _ _ _ _ (.inr HD.out) ?s1 ?s2).mono ?_; (case s1 => simp [Lib.byteCells, Lib.strCells]; omega); (case s2 => exact HB.out.size); rintro e w2 ⟨rfl, h1, hb⟩; have n0_ := Y0 h1; have n1_ := Y0 (HB.out.trans hb); clear HD HB hb h1; have HD := n0_; have HB := n1_; clear n0_ n1_) | (go_at_call 42; refine (sb_WriteString _ _ _ _ _ (.inr HD.out) ?s1 ?s2).mono ?_; (case s1 => rw [Lib.byteCells_length]; show _ + 2 ≤ _; omega); (case s2 => exact HB.out.size); rintro e w2 ⟨rfl, h1, hb⟩; have n0_ := Y0 h1; have n1_ := Y0 (HB.out.trans hb); clear HD HB hb h1; have HD := n0_; have HB := n1_; clear n0_ n1_))
     go_roundg k1
     case measure => omega
     case rel => exact ⟨i + 1, by go_num, ⟨by have := HN.out; omega⟩, ⟨by rw [HS.out, HQ.out]; simpa [Lib.byteCells, Lib.strCells] using HD.out⟩, ⟨HB.out⟩⟩
    have b1 : ((a0[i].toNat : Int) == 34) = false := by rw [beq_eq_false_iff_ne]; omega
    have b2 : ((a0[i].toNat : Int) == 92) = false := by rw [beq_eq_false_iff_ne]; omega
    have b3 : ((a0[i].toNat : Int) == 10) = false := by rw [beq_eq_false_iff_ne]; omega
    by_cases c32 : a0[i].toNat < 32
    ·have b4 : decide ((a0[i].toNat : Int) < 32) = true := decide_eq_true (by omega)
     have HQ := Y0 (show quote1 a0[i] = [92, 120, hexB (a0[i].toNat / 16), hexB (a0[i].toNat % 16)] by rw [quote1_nat, if_neg (by omega), if_neg c10, if_pos (.inl c32)])
     clear c34 c92 c10 c32
     go_wp2_with (first | (go_at_call 41; refine (sb_WriteByte _ _ _ _ _ (.inr HD.out) ?s1 ?s2).mono ?_; (case s1 => simp [Lib.byteCells, Lib.strCells]; omega); (case s2 => exact HB.out.size); rintro e w2 ⟨rfl, h1, hb⟩; have n0_ := Y0 h1; have n1_ := Y0 (HB.out.trans hb); clear HD HB hb h1; have HD := n0_; have HB := n1_; clear n0_ n1_) | (go_at_call 42; refine (sb_WriteString _ _ _ _ _ (.inr HD.out) ?s1 ?s2).mono ?_; (case s1 => rw [Lib.byteCells_length]; show _ + 2 ≤ _; omega); (case s2 => exact HB.out.size); rintro e w2 ⟨rfl, h1, hb⟩; have n0_ := Y0 h1; have n1_ := Y0 (HB.out.trans hb); clear HD HB hb h1; have HD := n0_; have HB := n1_; clear n0_ n1_))
     go_roundg k1
     case measure => omega
     case rel => exact ⟨i + 1, by go_num, ⟨by have := HN.out; omega⟩, ⟨by rw [HS.out, HQ.out]; have hd := HD.out; simp only [hex_at] at hd; simpa [Lib.byteCells, Lib.strCells] using hd⟩, ⟨HB.out⟩⟩
    have b4 : decide ((a0[i].toNat : Int) < 32) = false := decide_eq_false (by omega)
    by_cases c126 : 126 < a0[i].toNat
    rotate_left
    ·have b5 : decide (126 < (a0[i].toNat : Int)) = false := decide_eq_false (by omega)
     have HQ := Y0 (show quote1 a0[i] = [a0[i]] by rw [quote1_nat, if_neg (by omega), if_neg c10, if_neg (by omega)])
     clear c34 c92 c10 c32 c126
     go_wp2_with (first | (go_at_call 41; refine (sb_WriteByte _ _ _ _ _ (.inr HD.out) ?s1 ?s2).mono ?_; (case s1 => simp [Lib.byteCells, Lib.strCells]; omega); (case s2 => exact HB.out.size); rintro e w2 ⟨rfl, h1, hb⟩; have n0_ := Y0 h1; have n1_ := Y0 (HB.out.trans hb); clear HD HB hb h1; have HD := n0_; have HB := n1_; clear n0_ n1_) | (go_at_call 42; refine (sb_WriteString _ _ _ _ _ (.inr HD.out) ?s1 ?s2).mono ?_; (case s1 => rw [Lib.byteCells_length]; show _ + 2 ≤ _; omega); (case s2 => exact HB.out.size); rintro e w2 ⟨rfl, h1, hb⟩; have n0_ := Y0 h1; have n1_ := Y0 (HB.out.trans hb); clear HD HB hb h1; have HD := n0_; have HB := n1_; clear n0_ n1_))
     go_roundg k1
     case measure => omega
     case rel => exact ⟨i + 1, by go_num, ⟨by have := HN.out; omega⟩, ⟨by rw [HS.out, HQ.out]; simpa [Lib.byteCells, Lib.strCells] using HD.out⟩, ⟨HB.out⟩⟩
    have b5 : decide (126 < (a0[i].toNat : Int)) = true := decide_eq_true (by omega)
    have HQ := Y0 (show quote1 a0[i] = [92, 120, hexB (a0[i].toNat / 16), hexB (a0[i].toNat % 16)] by rw [quote1_nat, if_neg (by omega), if_neg c10, if_pos (.inr c126)])
    clear c34 c92 c10 c32 c126
    go_wp2_with (first | (go_at_call 41; refine (sb_WriteByte _ _ _ _ _ (.inr HD.out) ?s1 ?s2).mono ?_; (case s1 => simp [Lib.byteCells, Lib.strCells]; omega); (case s2 => exact HB.out.size); rintro e w2 ⟨rfl, h1, hb⟩; have n0_ := Y0 h1; have n1_ := Y0 (HB.out.trans hb); clear HD HB hb h1; have HD := n0_; have HB := n1_; clear n0_ n1_) | (go_at_call 42; refine (sb_WriteString _ _ _ _ _ (.inr HD.out) ?s1 ?s2).mono ?_; (case s1 => rw [Lib.byteCells_length]; show _ + 2 ≤ _; omega); (case s2 => exact HB.out.size); rintro e w2 ⟨rfl, h1, hb⟩; have n0_ := Y0 h1; have n1_ := Y0 (HB.out.trans hb); clear HD HB hb h1; have HD := n0_; have HB := n1_; clear n0_ n1_))
    go_roundg k1
    case measure => omega
    case rel => exact ⟨i + 1, by go_num, ⟨by have := HN.out; omega⟩, ⟨by rw [HS.out, HQ.out]; have hd := HD.out; simp only [hex_at] at hd; simpa [Lib.byteCells, Lib.strCells] using hd⟩, ⟨HB.out⟩⟩
 ·cases h
theorem quoteF (a : ByteArray) (h : a.size ≤ 1000000000000) : token_Quote.f a = some ⟨(quoteL (bl a)).toArray⟩ := by
 unfold token_Quote.f
 rw [if_pos h]
theorem blMk (l : List UInt8) : bl ⟨l.toArray⟩ = l := rfl
mutual
def textN : NodeS → List UInt8
 | ⟨k, t, _, _, l⟩ => if k = 2 then quoteL (bl t) else if k = 4 then 40 :: (Lib.join (textL l) [32] ++ [41]) else bl t
def textL : List NodeS → List (List UInt8)
 | [] => []
 | x :: r => textN x :: textL r
end
theorem textL_map (l : List NodeS) : textL l = l.map textN := by
 induction l with
 | nil => rfl
 | cons x r ih => rw [textL, ih, List.map_cons]
def textS (x : NodeS) : ByteArray := ⟨(textN x).toArray⟩
def TextPost (w : World) (b : ByteArray) (e : Ending) (w' : World) : Prop := e = .returned (.string b) ∧ Below w.heap.size w w'
theorem opIn_append_own {F : Fence} {n : Nat} {P : Program} (w : World) {o : Oper} {a : Act} {K : Act → World → Prop} {Q : Exit → Act → World → Prop} (s x : Operand) (t : TypeId) (hop : o.op = Op.call { callee := Callee.builtin Builtin.append, args := #[s, x], argTypes := #[t, t] })
  (base : Nat) (e : TypeId) (i : TypeInfo) (z : Value) (size bytes : Nat) (h1 : P.underlying t = some (.slice e)) (h2 : P.info? e = some i) (h3 : i.zero = some z) (h4 : i.size = size) (h5 : i.bytes = bytes) (h6 : z.cells.size = size) (h7 : 0 < size)
  (v : Value) (k : Nat) (xs : List Value) (hs : a.eval s = v) (hown : w.ownsRow base e size v k xs) (ad : Addr) (m c : Nat) (news : List Value) (hx : a.eval x = .slice (some ad) m c) (hn : news.length = m * size)
  (hc : ∀ j u, news[j]? = some u → w.cell? (ad.add j) = some u) (h1c : ∀ u ∈ news, u.oneCell' = true) (b1 : k + m ≤ maxLen) (b2 : (k + m) * bytes ≤ 140737488355328) (b3 : base ≤ w.heap.size)
  (hK : ∀ v' w', w'.ownsRow base e size v' (k + m) (xs ++ news) → w.grownBy w' v.ownBlock → K (a.put o.dst v') w') : Oper.wpIn F n P o a w K Q := by
 obtain ⟨v', w', hrun, r1, r2, r3⟩ := run_append_own (P := P) w base t o.type e i z size bytes h1 h2 h3 h4 h5 h6 h7 v k xs hown ad m c news hn hc h1c b1 b2 b3
 unfold Oper.wpIn
 refine ⟨?_, ?_⟩
 ·simp [Oper.about, hop, resolve, Target.leads, Sem.run_pure]
 ·rw [Oper.semAt_plain F _ _ (by rw [hop]; intro c hc'; cases hc')]
  simp [execOp, hop, resolve, invoke, builtin, hs, hx, hrun, Result.andThen]
  exact hK v' w' r1 r2
theorem string_info : (Tryd.prog.info? 9).map (fun i => (i.zero, i.size, i.bytes)) = some (some (.string ⟨#[]⟩), 1, 16) := by kernel_rfl
def TextI (w wl : World) (l : List NodeS) (pre : List (NodeAt w l)) (W : World) : Prop := (∃ v, Boxed W (w.heap.size + 1) 48 v ∧ W.ownsRow w.heap.size 9 1 v pre.length (pre.map (fun y => .string (textS y.1.1))) ∧ True) ∧ (Below w.heap.size w W ∧ wl.heap.size ≤ W.heap.size)
theorem own_at_below {W W1 : World} {base n : Nat} {e : TypeId} {size : Nat} {v : Value} {xs : List Value} (h : W.ownsRow base e size v n xs) (hb : Below W.drew.heap.size W.drew W1) : W1.ownsRow base e size v n xs := own_move h (fun k hk => hb.block k (own_lt h k hk))
theorem drew_below {B : Nat} {W W1 : World} (h : Below B W.drew W1) : Below B W W1 := ⟨h.os, h.tape, h.output, h.size, h.block⟩
theorem text_step {w wl W W1 w1 : World} {l : List NodeS} {pre : List (NodeAt w l)} {y : NodeAt w l} {v v' : Value} (hv : Boxed W (w.heap.size + 1) 48 v) (ho : W.ownsRow w.heap.size 9 1 v pre.length (pre.map (fun y => .string (textS y.1.1)))) (kB : Below w.heap.size w W) (kz : wl.heap.size ≤ W.heap.size)
  (hB1 : Below W.drew.heap.size W.drew W1) (hown : w1.ownsRow w.heap.size 9 1 v' (pre.length + 1) (pre.map (fun y => .string (textS y.1.1)) ++ [.string (textS y.1.1)])) (hg : (W1.alloc (.cells #[.string (textS y.1.1)] 9)).grownBy w1 v.ownBlock) :
  (w1.cell? ⟨w.heap.size + 1, 0, none⟩ = some v ∧ w1.frozen? ⟨w.heap.size + 1, 0, none⟩ = false ∧ ∃ g cap, v' = .slice (some ⟨g, 0, none⟩) (pre.length + 1) cap) ∧
  (KeepsFrom wl.heap.size W (w1.setCell ⟨w.heap.size + 1, 0, none⟩ v') ∧ Below w.heap.size W (w1.setCell ⟨w.heap.size + 1, 0, none⟩ v') ∧ TextI w wl l (pre ++ [y]) (w1.setCell ⟨w.heap.size + 1, 0, none⟩ v')) := by
 have j1 : Boxed W1 (w.heap.size + 1) 48 v := blk_below (show W.drew.heap[w.heap.size + 1]? = some (.cells #[v] 48 (0, 0)) from hv) hB1
 have hs : W.heap.size ≤ W1.heap.size := hB1.size
 obtain ⟨q1, q2, q3, q4, q5⟩ := j1.appended (by decide) (own_at_below ho hB1) (Nat.le_trans kB.size hs) (Nat.le_succ _) hown hg
 have hWW : Below w.heap.size W W1 := drew_below (hB1.mono kB.size)
 refine ⟨⟨q1.cell, q1.frozen, ownsRow_succ hown⟩, (keeps_below (drew_below hB1)).trans (q4.from _), hWW.trans q5, ⟨_, q2, ?_, trivial⟩, kB.trans (hWW.trans q5), Nat.le_trans kz (hWW.trans q5).size⟩
 rw [List.length_append, List.map_append]
 exact q3
theorem join_any (xs : List ByteArray) (sep : ByteArray) (v : Value) (base : Nat) (W : World) (ho : W.ownsRow base 9 1 v xs.length (xs.map .string)) (hN : xs.length ≤ 140737488355328) (hlen : (Lib.join (xs.map (·.data.toList)) sep.data.toList).length ≤ 140737488355328) :
  Calls Tryd.prog 73 #[v, .string sep] W fun e w' => e = .returned (.string ⟨(Lib.join (xs.map (·.data.toList)) sep.data.toList).toArray⟩) ∧ Below W.heap.size W w' := by
 have hz : ∀ a c, xs.length = 0 → Calls Tryd.prog 73 #[.slice a 0 c, .string sep] W fun e w' => e = .returned (.string ⟨(Lib.join (xs.map (·.data.toList)) sep.data.toList).toArray⟩) ∧ Below W.heap.size W w' := by
  intro a c h0
  obtain rfl := List.length_eq_zero_iff.1 h0
  refine (Tryd.strings_Join_none a c sep W).mono ?_
  rintro e w' ⟨rfl, rfl⟩
  exact ⟨rfl, Below.refl _ _⟩
 have hc := fun (g : Nat) (hg : v.ownBlock = some g) => World.ownsRow.cells ho hg
 rcases ho.2 with ⟨rfl, h0⟩ | ⟨g, cap, cur, rfl, hg, hh, hle, hcap, hsz, htake⟩
 ·exact hz none 0 h0
 ·by_cases h0 : xs.length = 0
  ·rw [h0]; exact hz _ _ h0
  ·refine Tryd.strings_Join g 0 cap xs sep W ?_ (Array.getElem?_eq_some_iff.1 hh).1 hN hle hlen
   intro j x hj
   have := hc g rfl j (.string x) (by rw [List.getElem?_map, hj]; rfl)
   rw [add_plain] at this
   rw [Nat.zero_add]
   exact this
theorem mk_append (a b : List UInt8) : (⟨a.toArray⟩ : ByteArray) ++ (⟨b.toArray⟩ : ByteArray) = ⟨(a ++ b).toArray⟩ := by
 apply eq_of_bl
 rw [bl_app]
attribute [local go_sem] Oper.semAt_some
set_option maxRecDepth 100000 in
set_option maxHeartbeats 4000000 in
theorem text_list (t : ByteArray) (n a : Int) (l : List NodeS) (A : Option Addr) (c : Nat) (w : World) (hl : l.length ≤ 1000000000000) (hT : (textN ⟨4, t, n, a, l⟩).length ≤ 1000000000000) (hC : k39.C w A l.length l) (hc : l.length ≤ c)
  (ih : ∀ (y : NodeAt w l) (W : World), Below w.heap.size w W → Calls Tryd.prog 51 #[.agg y.1.2] W (TextPost W (textS y.1.1))) :
  Calls Tryd.prog 51 #[.agg #[.int .i64 4, .string t, .int .i64 n, .int .i64 a, .slice A l.length c]] w (TextPost w (textS ⟨4, t, n, a, l⟩)) := by
 refine (callsIn_wide (n := 5)).1 ?_
 refine callsIn_of_wp_marks Tryd.func51 rfl trivial ?_ rfl
 simp only [Tryd.ntmps51, List.size_toArray, List.length_cons, List.length_nil, Nat.reduceAdd, Nat.reduceSub, Array.replicate_succ, Array.replicate_zero, List.push_toArray, List.append_toArray, List.nil_append, List.cons_append]
 have IH := Y0 ih
 have HC := Y0 hC
 have HL := Y0 hl
 have HT := Y0 hT
 clear ih hC hl hT
 gi_wp2_with (refine ⟨trivial, ?_⟩; gi_at_call 71; refine (each_any _ _ rfl _).mono ?_; rintro e w' ⟨rfl, rfl⟩)
 obtain ⟨b0, h0, h1, h2, hz⟩ := allocs3 w (.cells #[.int .i64 4, .string t, .int .i64 n, .int .i64 a, .slice A l.length c] TN) (.cells #[.slice none 0 0] 48) (.cells #[.int .i64 4, .string t, .int .i64 n, .int .i64 a, .slice A l.length c] TN)
 generalize (((w.alloc (.cells #[.int .i64 4, .string t, .int .i64 n, .int .i64 a, .slice A l.length c] TN)).alloc (.cells #[.slice none 0 0] 48)).alloc (.cells #[.int .i64 4, .string t, .int .i64 n, .int .i64 a, .slice A l.length c] TN)) = wl at *
 have HB0 := Y0 b0
 have HZ := Y0 hz
 clear b0 hz
 refine range_each 4 (w.heap.size + 1 + 1) w ⟨4, t, n, a, l⟩ A c (Nat.le_trans HL.out (by decide)) HC.out HB0.out ((blk_cell h2 4).trans rfl) rfl
  (TextI w wl l)
  (fun _ _ _ => False)
  (OwnFrom.and (Own.from (holdsRow_own w.heap.size (w.heap.size + 1) 48 9 1 (fun (pre : List (NodeAt w l)) => pre.length) (fun (pre : List (NodeAt w l)) => pre.map (fun y => .string (textS y.1.1))) (fun _ _ => True)) _) (OwnFrom.and (ownFrom_below (Nat.le_refl _) HB0.out.size) (fun s W W' row hs hg _ => Nat.le_trans hs hg.size)))
  (fun _ _ _ _ _ hs _ _ => hs)
  ⟨⟨_, h1, World.ownsRow_nil _ _ _ _, trivial⟩, HB0.out, Nat.le_refl _⟩ ?assign ?body (fun _ _ h => h.2.2) ?done ?stop
 case assign =>
  intro lp y W K hK
  obtain ⟨Ay, cy, hy, _⟩ := node_cells y
  rw [hy] at hK ⊢
  gi_wp2
  exact hK
 case body =>
  rintro lp pre y Bx W hlp hr ⟨⟨v, hv, ho, _⟩, kB, kz⟩ hBx kx hlt
  obtain ⟨Ay, cy, hy, _⟩ := node_cells y
  rw [hy] at kx ⊢
  have x0 : W.cell? ⟨Bx, 0, none⟩ = some (.int .i64 y.1.1.f0) := (blk_cell kx 0).trans rfl
  have x1 : W.cell? ⟨Bx, 1, none⟩ = some (.string y.1.1.f1) := (blk_cell kx 1).trans rfl
  have x2 : W.cell? ⟨Bx, 2, none⟩ = some (.int .i64 y.1.1.f2) := (blk_cell kx 2).trans rfl
  have x3 : W.cell? ⟨Bx, 3, none⟩ = some (.int .i64 y.1.1.f3) := (blk_cell kx 3).trans rfl
  have x4 : W.cell? ⟨Bx, 4, none⟩ = some (.slice Ay y.1.1.f4.length cy) := (blk_cell kx 4).trans rfl
  have v0 := hv.cell
  have v1 := hv.frozen
  have hIY := Y0 (fun V hV => IH.out y V hV)
  rw [hy] at hIY
  have HV := Y0 hv
  have HO := Y0 ho
  have KB := Y0 kB
  have KZ := Y0 kz
  clear hy kx hv ho kB kz h0 h1 h2
  gi_wp2
  have HS := Y0 (fun (W1 : World) (v' : Value) (w1 : World) (p1 : Below W.drew.heap.size W.drew W1) p2 p3 => (text_step (wl := wl) (y := y) (v' := v') (w1 := w1) HV.out HO.out KB.out KZ.out p1 p2 p3).1)
  have HF := Y0 (fun (W1 : World) (v' : Value) (w1 : World) (b : Act) (p1 : Below W.drew.heap.size W.drew W1) p2 p3 => (show ownPostG wl.heap.size (Below w.heap.size) (TextI w wl l) (fun _ _ _ => False) (pre ++ [y]) W .normal b _ from (text_step (wl := wl) (y := y) (v' := v') (w1 := w1) HV.out HO.out KB.out KZ.out p1 p2 p3).2))
  have HN : Aside0 (pre.length + 1 ≤ 1000000000000) := ⟨Nat.le_trans hlt HL.out⟩
  obtain ⟨i0, hi, hz0, hz1, hz2⟩ := info_parts string_info
  refine wpIn_region_any (by kernel_rfl) ?_
  change wpAnyIn _ _ _ _ _ _ _ _ _ (World.drew _)
  refine wpAnyIn_ready (rs := [0, 1]) (by kernel_rfl) (by simp) ?_
  refine AllReadyIn.cons rfl (fun K hK => ?_) (AllReadyIn.cons rfl (fun K hK => ?_) AllReadyIn.nil)
  ·go_simp
   refine hK _ _ ?_
   clear hK K
   refine wpAnyIn_ready (rs := [1]) (by kernel_rfl) (by simp) ?_
   refine AllReadyIn.cons rfl (fun K hK => ?_) AllReadyIn.nil
   go_simp
   refine hK _ _ ?_
   clear hK K
   refine wpAnyIn_ready (rs := [2]) (by kernel_rfl) (by simp) ?_
   refine AllReadyIn.cons rfl (fun K hK => ?_) AllReadyIn.nil
   go_simp
   refine ⟨trivial, ?_⟩
   refine (CallsIn.inRound lp (callsIn_wide.2 (hIY.out _ (below_drew KB.out)))).mono ?_
   rintro e W1 ⟨rfl, hB1⟩
   have j1 : Boxed W1 (w.heap.size + 1) 48 v := blk_below (show W.drew.heap[w.heap.size + 1]? = some (.cells #[v] 48 (0, 0)) from HV.out) hB1
   have v2 := j1.cell
   have v3 := j1.frozen
   have HJ := Y0 j1
   have HB1 := Y0 hB1
   clear j1 hB1
   refine hK _ _ ?_
   clear hK K
   refine wpAnyIn_ready (rs := [3]) (by kernel_rfl) (by simp) ?_
   refine AllReadyIn.cons rfl (fun K hK => ?_) AllReadyIn.nil
   go_simp
   refine hK _ _ ?_
   clear hK K
   have v4 := pw_cell_below (below_alloc (Below.refl _ W1) (.cells #[.string (textS y.1.1)] 9 (0, 0))) v2
   refine wpAnyIn_ready (rs := [4]) (by kernel_rfl) (by simp) ?_
   refine AllReadyIn.cons rfl (fun K hK => ?_) AllReadyIn.nil
   refine opIn_append_own _ (.tmp 17) (.tmp 20) 48 rfl w.heap.size 9 i0 (.string ⟨#[]⟩) 1 16 Tryd.underlying48 hi hz0 hz1 hz2 rfl (by decide) v pre.length (pre.map (fun y => .string (textS y.1.1))) rfl ((own_at_below HO.out HB1.out).alloc _) ⟨W1.heap.size, 0, none⟩ 1 1 [.string (textS y.1.1)] rfl rfl (cell_one_new _ _ _) (by simp [Value.oneCell']) (by have := HN.out; unfold maxLen; omega) (by have := HN.out; omega) (Nat.le_trans (Nat.le_trans KB.out.size (show W.heap.size ≤ W1.heap.size from HB1.out.size)) (by simp)) ?_
   intro v' w1 hown1 hg1
   refine hK _ _ ?_
   clear hK K
   have HW := Y0 (And.intro hown1 hg1)
   obtain ⟨k0, k1, g3, c3, rfl⟩ := HS.out W1 v' w1 HB1.out hown1 hg1
   clear hown1 hg1
   refine wpAnyIn_ready (rs := [5]) (by kernel_rfl) (by simp) ?_
   refine AllReadyIn.cons rfl (fun K hK => ?_) AllReadyIn.nil
   go_simp
   refine hK _ _ ?_
   clear hK K
   refine wpAnyIn_done (by kernel_rfl) ?_ _
   exact HF.out W1 _ w1 ⟨#[], []⟩ HB1.out HW.out.1 HW.out.2
  ·go_simp
   refine hK _ _ ?_
   clear hK K
   refine wpAnyIn_ready (rs := [0, 2]) (by kernel_rfl) (by simp) ?_
   refine AllReadyIn.cons rfl (fun K hK => ?_) (AllReadyIn.cons rfl (fun K hK => ?_) AllReadyIn.nil)
   ·go_simp
    refine hK _ _ ?_
    clear hK K
    refine wpAnyIn_ready (rs := [2]) (by kernel_rfl) (by simp) ?_
    refine AllReadyIn.cons rfl (fun K hK => ?_) AllReadyIn.nil
    go_simp
    refine ⟨trivial, ?_⟩
    refine (CallsIn.inRound lp (callsIn_wide.2 (hIY.out _ (below_drew KB.out)))).mono ?_
    rintro e W1 ⟨rfl, hB1⟩
    have j1 : Boxed W1 (w.heap.size + 1) 48 v := blk_below (show W.drew.heap[w.heap.size + 1]? = some (.cells #[v] 48 (0, 0)) from HV.out) hB1
    have v2 := j1.cell
    have v3 := j1.frozen
    have HJ := Y0 j1
    have HB1 := Y0 hB1
    clear j1 hB1
    refine hK _ _ ?_
    clear hK K
    refine wpAnyIn_ready (rs := [3]) (by kernel_rfl) (by simp) ?_
    refine AllReadyIn.cons rfl (fun K hK => ?_) AllReadyIn.nil
    go_simp
    refine hK _ _ ?_
    clear hK K
    have v4 := pw_cell_below (below_alloc (Below.refl _ W1) (.cells #[.string (textS y.1.1)] 9 (0, 0))) v2
    refine wpAnyIn_ready (rs := [4]) (by kernel_rfl) (by simp) ?_
    refine AllReadyIn.cons rfl (fun K hK => ?_) AllReadyIn.nil
    refine opIn_append_own _ (.tmp 17) (.tmp 20) 48 rfl w.heap.size 9 i0 (.string ⟨#[]⟩) 1 16 Tryd.underlying48 hi hz0 hz1 hz2 rfl (by decide) v pre.length (pre.map (fun y => .string (textS y.1.1))) rfl ((own_at_below HO.out HB1.out).alloc _) ⟨W1.heap.size, 0, none⟩ 1 1 [.string (textS y.1.1)] rfl rfl (cell_one_new _ _ _) (by simp [Value.oneCell']) (by have := HN.out; unfold maxLen; omega) (by have := HN.out; omega) (Nat.le_trans (Nat.le_trans KB.out.size (show W.heap.size ≤ W1.heap.size from HB1.out.size)) (by simp)) ?_
    intro v' w1 hown1 hg1
    refine hK _ _ ?_
    clear hK K
    have HW := Y0 (And.intro hown1 hg1)
    obtain ⟨k0, k1, g3, c3, rfl⟩ := HS.out W1 v' w1 HB1.out hown1 hg1
    clear hown1 hg1
    refine wpAnyIn_ready (rs := [5]) (by kernel_rfl) (by simp) ?_
    refine AllReadyIn.cons rfl (fun K hK => ?_) AllReadyIn.nil
    go_simp
    refine hK _ _ ?_
    clear hK K
    refine wpAnyIn_done (by kernel_rfl) ?_ _
    exact HF.out W1 _ w1 ⟨#[], []⟩ HB1.out HW.out.1 HW.out.2
   ·go_simp
    refine ⟨trivial, ?_⟩
    refine (CallsIn.inRound lp (callsIn_wide.2 (hIY.out _ (below_drew KB.out)))).mono ?_
    rintro e W1 ⟨rfl, hB1⟩
    have j1 : Boxed W1 (w.heap.size + 1) 48 v := blk_below (show W.drew.heap[w.heap.size + 1]? = some (.cells #[v] 48 (0, 0)) from HV.out) hB1
    have v2 := j1.cell
    have v3 := j1.frozen
    have HJ := Y0 j1
    have HB1 := Y0 hB1
    clear j1 hB1
    refine hK _ _ ?_
    clear hK K
    refine wpAnyIn_ready (rs := [0, 3]) (by kernel_rfl) (by simp) ?_
    refine AllReadyIn.cons rfl (fun K hK => ?_) (AllReadyIn.cons rfl (fun K hK => ?_) AllReadyIn.nil)
    ·go_simp
     refine hK _ _ ?_
     clear hK K
     refine wpAnyIn_ready (rs := [3]) (by kernel_rfl) (by simp) ?_
     refine AllReadyIn.cons rfl (fun K hK => ?_) AllReadyIn.nil
     go_simp
     refine hK _ _ ?_
     clear hK K
     have v4 := pw_cell_below (below_alloc (Below.refl _ W1) (.cells #[.string (textS y.1.1)] 9 (0, 0))) v2
     refine wpAnyIn_ready (rs := [4]) (by kernel_rfl) (by simp) ?_
     refine AllReadyIn.cons rfl (fun K hK => ?_) AllReadyIn.nil
     refine opIn_append_own _ (.tmp 17) (.tmp 20) 48 rfl w.heap.size 9 i0 (.string ⟨#[]⟩) 1 16 Tryd.underlying48 hi hz0 hz1 hz2 rfl (by decide) v pre.length (pre.map (fun y => .string (textS y.1.1))) rfl ((own_at_below HO.out HB1.out).alloc _) ⟨W1.heap.size, 0, none⟩ 1 1 [.string (textS y.1.1)] rfl rfl (cell_one_new _ _ _) (by simp [Value.oneCell']) (by have := HN.out; unfold maxLen; omega) (by have := HN.out; omega) (Nat.le_trans (Nat.le_trans KB.out.size (show W.heap.size ≤ W1.heap.size from HB1.out.size)) (by simp)) ?_
     intro v' w1 hown1 hg1
     refine hK _ _ ?_
     clear hK K
     have HW := Y0 (And.intro hown1 hg1)
     obtain ⟨k0, k1, g3, c3, rfl⟩ := HS.out W1 v' w1 HB1.out hown1 hg1
     clear hown1 hg1
     refine wpAnyIn_ready (rs := [5]) (by kernel_rfl) (by simp) ?_
     refine AllReadyIn.cons rfl (fun K hK => ?_) AllReadyIn.nil
     go_simp
     refine hK _ _ ?_
     clear hK K
     refine wpAnyIn_done (by kernel_rfl) ?_ _
     exact HF.out W1 _ w1 ⟨#[], []⟩ HB1.out HW.out.1 HW.out.2
    ·go_simp
     refine hK _ _ ?_
     clear hK K
     have v4 := pw_cell_below (below_alloc (Below.refl _ W1) (.cells #[.string (textS y.1.1)] 9 (0, 0))) v2
     refine wpAnyIn_ready (rs := [0]) (by kernel_rfl) (by simp) ?_
     refine AllReadyIn.cons rfl (fun K hK => ?_) AllReadyIn.nil
     go_simp
     refine hK _ _ ?_
     clear hK K
     refine wpAnyIn_ready (rs := [4]) (by kernel_rfl) (by simp) ?_
     refine AllReadyIn.cons rfl (fun K hK => ?_) AllReadyIn.nil
     refine opIn_append_own _ (.tmp 17) (.tmp 20) 48 rfl w.heap.size 9 i0 (.string ⟨#[]⟩) 1 16 Tryd.underlying48 hi hz0 hz1 hz2 rfl (by decide) v pre.length (pre.map (fun y => .string (textS y.1.1))) rfl ((own_at_below HO.out HB1.out).alloc _) ⟨W1.heap.size, 0, none⟩ 1 1 [.string (textS y.1.1)] rfl rfl (cell_one_new _ _ _) (by simp [Value.oneCell']) (by have := HN.out; unfold maxLen; omega) (by have := HN.out; omega) (Nat.le_trans (Nat.le_trans KB.out.size (show W.heap.size ≤ W1.heap.size from HB1.out.size)) (by simp)) ?_
     intro v' w1 hown1 hg1
     refine hK _ _ ?_
     clear hK K
     have HW := Y0 (And.intro hown1 hg1)
     obtain ⟨k0, k1, g3, c3, rfl⟩ := HS.out W1 v' w1 HB1.out hown1 hg1
     clear hown1 hg1
     refine wpAnyIn_ready (rs := [5]) (by kernel_rfl) (by simp) ?_
     refine AllReadyIn.cons rfl (fun K hK => ?_) AllReadyIn.nil
     go_simp
     refine hK _ _ ?_
     clear hK K
     refine wpAnyIn_done (by kernel_rfl) ?_ _
     exact HF.out W1 _ w1 ⟨#[], []⟩ HB1.out HW.out.1 HW.out.2
 case done =>
  rintro D ys W hD hys ⟨⟨v, hv, ho, _⟩, kB, kz⟩ hK
  have hys' : ys.map (fun y => textS y.1.1) = l.map textS := by
   have := congrArg (List.map textS) hys
   rw [List.map_map] at this
   exact this
  have hmap : ys.map (fun y => Value.string (textS y.1.1)) = (l.map textS).map .string := by rw [← hys', List.map_map]; rfl
  have hlen : ys.length = (l.map textS).length := by rw [← hys', List.length_map]
  rw [hmap, hlen] at ho
  have hjl : (l.map textS).map (·.data.toList) = textL l := by rw [textL_map, List.map_map]; rfl
  have hTl : (Lib.join (textL l) [32]).length + 2 ≤ 1000000000000 := by
   have := HT.out
   rw [textN, if_neg (by decide), if_pos rfl] at this
   simpa using this
  have v0 := hv.cell
  have HJ := Y0 (join_any (l.map textS) ⟨#[32]⟩ v w.heap.size W ho (by rw [List.length_map]; exact Nat.le_trans HL.out (by decide)) (by rw [hjl]; show (Lib.join (textL l) [32]).length ≤ _; omega))
  rw [hjl] at HJ
  have KB := Y0 kB
  have HK := Y0 hK
  have HJL := Y0 hTl
  have s1 : ¬ 9223372036854775807 < 1 + (Lib.join (textL l) [32]).length := by omega
  have s2 : ¬ 9223372036854775807 < 1 + (Lib.join (textL l) [32]).length + 1 := by omega
  clear hmap hlen hys' ho hv kB kz hK h0 h1 h2 hys hjl hTl
  gi_wp2_with (refine ⟨trivial, ?_⟩; gi_at_call 73; refine (callsIn_wide.2 HJ.out).mono ?_; rintro e W1 ⟨rfl, hB1⟩)
  have hK1 := (keeps_below (B := 0) hB1).same D _ (Nat.zero_le _) HK.out rfl
  refine ⟨by simp, .inl ⟨_, _, rfl, run_takeDeferred hK1, ?_⟩⟩
  refine ⟨_, results_tmp rfl _ _ _, ?_, (below_step KB.out hB1).trans (belowK_b (w := w) (Nat.le_refl _) W1 D _ (.deferred none) (Nat.le_trans HB0.out.size hD) hK1 rfl rfl)⟩
  have e : (⟨#[40]⟩ : ByteArray) ++ (⟨(Lib.join (textL l) [32]).toArray⟩ : ByteArray) ++ (⟨#[41]⟩ : ByteArray) = textS ⟨4, t, n, a, l⟩ := by
   rw [show (⟨#[40]⟩ : ByteArray) = ⟨([40] : List UInt8).toArray⟩ from rfl, show (⟨#[41]⟩ : ByteArray) = ⟨([41] : List UInt8).toArray⟩ from rfl, mk_append, mk_append, textS, textN, if_neg (by decide), if_pos rfl]
   rfl
  rw [← e]
  rfl
 case stop =>
  rintro D k pre W hD hpre h hK
  exact h.elim
theorem join_long (xs : List (List UInt8)) (c : UInt8) : (xs.map List.length).sum + xs.length ≤ (Lib.join xs [c]).length + 1 := by
 induction xs with
 | nil => simp
 | cons x r ih =>
  cases r with
  | nil => simp [Lib.join, List.intercalate]
  | cons y r =>
   have e : (Lib.join (x :: y :: r) [c]).length = x.length + 1 + (Lib.join (y :: r) [c]).length := by simp [Lib.join, List.intercalate, List.intersperse]; omega
   rw [e]
   simp only [List.map_cons, List.sum_cons, List.length_cons] at ih ⊢
   omega
theorem text_child (l : List NodeS) (y : NodeS) (h : y ∈ l) : (textN y).length ≤ (Lib.join (textL l) [32]).length ∧ l.length ≤ (Lib.join (textL l) [32]).length + 1 := by
 have h1 := join_long (textL l) 32
 rw [textL_map, List.length_map, List.map_map] at h1
 rw [textL_map]
 have h2 : (textN y).length ≤ (l.map (List.length ∘ textN)).sum := by
  obtain ⟨a, b, rfl⟩ := List.append_of_mem h
  simp
  omega
 have h3 : 1 ≤ l.length := List.length_pos_of_mem h
 omega
theorem quoteL_long (l : List UInt8) : l.length ≤ (quoteL l).length := by
 have h1 : ∀ c : UInt8, 1 ≤ (quote1 c).length := by
  intro c
  unfold quote1
  repeat' split
  all_goals simp
 have h2 : l.length ≤ (l.flatMap quote1).length := by
  induction l with
  | nil => simp
  | cons c r ih => have := h1 c; rw [List.flatMap_cons, List.length_append, List.length_cons]; omega
 unfold quoteL
 rw [List.length_cons, List.length_append]
 omega
set_option maxRecDepth 100000 in
set_option maxHeartbeats 4000000 in
theorem text_leaf (k : Int) (t : ByteArray) (n a : Int) (l : List NodeS) (A : Option Addr) (c : Nat) (w : World) (hT : (textN ⟨k, t, n, a, l⟩).length ≤ 1000000000000) (hk : ¬ k = 4) :
  Calls Tryd.prog 51 #[.agg #[.int .i64 k, .string t, .int .i64 n, .int .i64 a, .slice A l.length c]] w (TextPost w (textS ⟨k, t, n, a, l⟩)) := by
 by_cases h2 : k = 2
 ·have e : Aside0 ((⟨(quoteL (bl t)).toArray⟩ : ByteArray) = textS ⟨k, t, n, a, l⟩) := ⟨by rw [textS, textN, if_pos h2]⟩
  have hq : t.size ≤ 1000000000000 := by
   rw [textN, if_pos h2] at hT
   have := quoteL_long (bl t)
   rw [bl_length] at this
   omega
  have HQ := Y0 (quoteF t hq)
  have n2 := beq_lit h2
  have n4 := beq_no hk
  clear h2 hk hT hq
  go_enter Tryd.func51, Tryd.ntmps51
  go_wp2_with (go_at_call 19; refine (token_Quote.calls t _ _ HQ.out).mono ?_; rintro e1 W1 ⟨rfl, hB1⟩)
  go_ret
  exact ⟨by rw [← e.out]; rfl, below_step (below_alloc (Below.refl _ _) _) hB1⟩
 ·have e : Aside0 (t = textS ⟨k, t, n, a, l⟩) := ⟨by rw [textS, textN, if_neg h2, if_neg hk, mk_bl]⟩
  have n2 := beq_no h2
  have n4 := beq_no hk
  clear h2 hk hT
  go_enter Tryd.func51, Tryd.ntmps51
  go_wp2
  go_ret
  exact ⟨by rw [← e.out]; rfl, below_alloc (Below.refl _ _) _⟩
theorem text_any : ∀ (N : Nat) (k : Int) (t : ByteArray) (n a : Int) (l : List NodeS) (A : Option Addr) (c : Nat) (w : World), SizeOf.sizeOf (⟨k, t, n, a, l⟩ : NodeS) ≤ N → (textN ⟨k, t, n, a, l⟩).length ≤ 1000000000000 → k39.C w A l.length l → l.length ≤ c →
  Calls Tryd.prog 51 #[.agg #[.int .i64 k, .string t, .int .i64 n, .int .i64 a, .slice A l.length c]] w (TextPost w (textS ⟨k, t, n, a, l⟩)) := by
 intro N
 induction N with
 | zero => intro k t n a l A c w h; simp [S39.mk.sizeOf_spec] at h
 | succ N ihN =>
  intro k t n a l A c w hN hT hC hc
  by_cases hk : k = 4
  ·subst hk
   have hT' := hT
   rw [textN, if_neg (by decide), if_pos rfl] at hT'
   simp only [List.length_cons, List.length_append, List.length_nil] at hT'
   refine text_list t n a l A c w ?_ hT hC hc ?_
   ·cases l with
    | nil => simp
    | cons y r => have := (text_child (y :: r) y (by simp)).2; omega
   rintro ⟨⟨⟨k', t', n', a', l'⟩, cs⟩, hm, hK⟩ W hB
   obtain ⟨A4, c4, e, h1, h2⟩ := node_cells (⟨(⟨k', t', n', a', l'⟩, cs), hm, hK⟩ : NodeAt w l)
   have hz := size_in ⟨4, t, n, a, l⟩ ⟨k', t', n', a', l'⟩ hm
   have hch := (text_child l _ hm).1
   dsimp only at e h1 h2 hz hch ⊢
   rw [e]
   exact ihN k' t' n' a' l' A4 c4 W (by omega) (by omega) (Kd.C_below h2 hB) h1
  ·exact text_leaf k t n a l A c w hT hk
def sexp_text.f (a0_0 : Int) (a0_1 : ByteArray) (a0_2 : Int) (a0_3 : Int) (l0_4 : List NodeS) : Option ByteArray := if (textN ⟨a0_0, a0_1, a0_2, a0_3, l0_4⟩).length ≤ 1000000000000 then some (textS ⟨a0_0, a0_1, a0_2, a0_3, l0_4⟩) else none
theorem sexp_text.calls (a0_0 : Int) (a0_1 : ByteArray) (a0_2 : Int) (a0_3 : Int) (A0_4 : Option Addr) (c0_4 : Nat) (l0_4 : List (S39)) (r : ByteArray) (w : World) (hr0_4 : Kd.C k39 w A0_4 l0_4.length l0_4) (hc0_4 : l0_4.length ≤ c0_4) (h : sexp_text.f a0_0 a0_1 a0_2 a0_3 l0_4 = some r) :
  Calls Tryd.prog 51 #[.agg #[.int .i64 a0_0, .string a0_1, .int .i64 a0_2, .int .i64 a0_3, .slice A0_4 l0_4.length c0_4]] w fun e w' => e = .returned (.string r) ∧ Below w.heap.size w w' := by
 unfold sexp_text.f at h
 split at h
 ·rename_i hs
  obtain rfl := Option.some.inj h
  exact text_any _ _ _ _ _ _ _ _ _ (Nat.le_refl _) hs hr0_4 hc0_4
 ·cases h
def sexp_Print.f (a0_0 : Int) (a0_1 : ByteArray) (a0_2 : Int) (a0_3 : Int) (l0_4 : List (S39)) : Option (ByteArray) := (sexp_May.f a0_0 a0_1 a0_2 a0_3 l0_4).bind fun t322 => (if t322 = true then ((sexp_text.f a0_0 a0_1 a0_2 a0_3 l0_4).bind fun t323 => (some t323)) else (some (⟨#[]⟩ : ByteArray)))
set_option maxHeartbeats 8000000 in
set_option maxRecDepth 100000 in
theorem sexp_Print.calls (a0_0 : Int) (a0_1 : ByteArray) (a0_2 : Int) (a0_3 : Int) (A0_4 : Option Addr) (c0_4 : Nat) (l0_4 : List (S39)) (r : ByteArray) (w : World) (hG : GInv w) (hr0_4 : Kd.C k39 w A0_4 l0_4.length l0_4) (hc0_4 : l0_4.length ≤ c0_4) (h : sexp_Print.f a0_0 a0_1 a0_2 a0_3 l0_4 = some r) :
  Calls Tryd.prog 30 #[.agg #[.int .i64 a0_0, .string a0_1, .int .i64 a0_2, .int .i64 a0_3, .slice A0_4 l0_4.length c0_4]] w fun e w' => e = .returned (.string r) ∧ Below w.heap.size w w' := by
 have hu39 := Tryd.underlying39
 have HR0_4 := Y0 hr0_4
 have HC0_4 := Y0 hc0_4
 clear hr0_4 hc0_4
 have HB := Y0 (Below.refl w.heap.size w)
 have H : ((sexp_May.f a0_0 a0_1 a0_2 a0_3 l0_4).bind fun t322 => (if t322 = true then ((sexp_text.f a0_0 a0_1 a0_2 a0_3 l0_4).bind fun t323 => (some t323)) else (some (⟨#[]⟩ : ByteArray)))) = some r := h
 clear h
 replace H := Y17.mp H
 obtain ⟨t322, A20, H⟩ := H
 try dsimp only at H
 have A2 := Y0 A20
 clear A20
 by_cases c3 : t322 = true
 rotate_left
 ·replace c3 := Bool.eq_false_iff.mpr c3
  subst c3
  rw [if_neg (show ¬ (false = true) by decide)] at H
  obtain rfl := Option.some.inj H
  go_enter Tryd.func30, Tryd.ntmps30
  go_wp2_with (first | ((with_reducible refine gate_dst (N := 1) rfl ?_); refine box_event ?hg (N := 1) ?hd (cs := #[.int .i64 a0_0, .string a0_1, .int .i64 a0_2, .int .i64 a0_3, .slice A0_4 l0_4.length c0_4]) (t := 39) ?hr ?_; (case hd => rfl); (case hg => rfl); (case hr => first | (go_simp; done) | (go_simp; rfl)); intro gb321 hg w10 hbox hb; have n0_ := Y0 (below_step (by repeat (with_reducible first | exact HB.out | apply Y3 | apply Y1 | apply Y2)) hb); have n1_ := Y0 (hbox); have n2_ := Y0 ((by rw [hg]; exact (below_size (by repeat (with_reducible first | exact HB.out | apply Y3 | apply Y1 | apply Y2))) : w.heap.size ≤ gb321)); have n3_ := Y0 ((by rw [hg]; exact (below_size (by repeat (with_reducible first | exact HB.out | apply Y3 | apply Y1 | apply Y2))) : w.heap.size ≤ gb321)); clear HB; have HB := n0_; have BK321 := n1_; have GW321 := n2_; have GE321 := n3_; clear n0_ n1_ n2_ n3_; clear hb hbox hg; have ⟨hcz11_0, hcz11_1, hcz11_2, hcz11_3, hcz11_4, hfz11_0, hfz11_1, hfz11_2, hfz11_3, hfz11_4⟩ := sq_box5 BK321.out) | ((with_reducible refine gate_callee (f := 25) rfl ?_); refine goesL_ (some 4) rfl rfl Tryd.func25 (by kernel_rfl) rfl #[.agg #[.int .i64 a0_0, .string a0_1, .int .i64 a0_2, .int .i64 a0_3, .slice A0_4 l0_4.length c0_4]] rfl (by (try simp only [List.map_toArray, List.map_cons, List.map_nil]); first | done | rfl | (simp only [List.length_drop, List.length_take]; rfl)) ?_; (with_reducible refine (sexp_May.calls a0_0 a0_1 a0_2 a0_3 _ _ l0_4 false _ ?side1 ?side2 ?side3 A2.out).mono ?_); (case side1 => exact hG.below (by repeat (with_reducible first | exact HB.out | apply Y3 | apply Y1 | apply Y2 | refine Y4 ?_ GE321.out))); (case side2 => repeat (first | exact (Kd.C_below HR0_4.out HB.out) | (with_reducible refine Kd.C_alloc ?_ _) | (with_reducible refine Kd.C_drewN ?_ _) | (with_reducible refine Kd.C_drew ?_))); (case side3 => exact HC0_4.out); rintro e w12 ⟨rfl, hb⟩; refine ⟨_, rfl, ?_⟩; have n0_ := Y0 (blk_below (g := gb321) (o := .cells #[.int .i64 a0_0, .string a0_1, .int .i64 a0_2, .int .i64 a0_3, .slice A0_4 l0_4.length c0_4] 39 (0, 0)) (by (with_reducible repeat first | apply Y11 | apply Y13 | apply Y12); exact BK321.out) hb); have n1_ := Y0 (below_step (by repeat (with_reducible first | exact HB.out | apply Y3 | apply Y1 | apply Y2 | refine Y4 ?_ GE321.out)) hb); clear BK321; clear HB; have BK321 := n0_; have HB := n1_; clear n0_ n1_; (try clear hb); (try clear hb2); (try clear hk); (try clear hi)))
  go_ret
  exact ⟨by first | rfl | (simp [] <;> rfl) | (simp [*] <;> rfl), by repeat (with_reducible first | exact HB.out | apply Y3 | apply Y1 | apply Y2 | refine Y4 ?_ GE321.out)⟩
 subst c3
 rw [if_pos rfl] at H
 replace H := Y17.mp H
 obtain ⟨t323, A40, H⟩ := H
 try dsimp only at H
 have A4 := Y0 A40
 clear A40
 obtain rfl := Option.some.inj H
 go_enter Tryd.func30, Tryd.ntmps30
 go_wp2_with (first | ((with_reducible refine gate_dst (N := 1) rfl ?_); refine box_event ?hg (N := 1) ?hd (cs := #[.int .i64 a0_0, .string a0_1, .int .i64 a0_2, .int .i64 a0_3, .slice A0_4 l0_4.length c0_4]) (t := 39) ?hr ?_; (case hd => rfl); (case hg => rfl); (case hr => first | (go_simp; done) | (go_simp; rfl)); intro gb321 hg w5 hbox hb; have n0_ := Y0 (below_step (by repeat (with_reducible first | exact HB.out | apply Y3 | apply Y1 | apply Y2)) hb); have n1_ := Y0 (hbox); have n2_ := Y0 ((by rw [hg]; exact (below_size (by repeat (with_reducible first | exact HB.out | apply Y3 | apply Y1 | apply Y2))) : w.heap.size ≤ gb321)); have n3_ := Y0 ((by rw [hg]; exact (below_size (by repeat (with_reducible first | exact HB.out | apply Y3 | apply Y1 | apply Y2))) : w.heap.size ≤ gb321)); clear HB; have HB := n0_; have BK321 := n1_; have GW321 := n2_; have GE321 := n3_; clear n0_ n1_ n2_ n3_; clear hb hbox hg; have ⟨hcz6_0, hcz6_1, hcz6_2, hcz6_3, hcz6_4, hfz6_0, hfz6_1, hfz6_2, hfz6_3, hfz6_4⟩ := sq_box5 BK321.out) | ((with_reducible refine gate_callee (f := 25) rfl ?_); refine goesL_ (some 4) rfl rfl Tryd.func25 (by kernel_rfl) rfl #[.agg #[.int .i64 a0_0, .string a0_1, .int .i64 a0_2, .int .i64 a0_3, .slice A0_4 l0_4.length c0_4]] rfl (by (try simp only [List.map_toArray, List.map_cons, List.map_nil]); first | done | rfl | (simp only [List.length_drop, List.length_take]; rfl)) ?_; (with_reducible refine (sexp_May.calls a0_0 a0_1 a0_2 a0_3 _ _ l0_4 true _ ?side1 ?side2 ?side3 A2.out).mono ?_); (case side1 => exact hG.below (by repeat (with_reducible first | exact HB.out | apply Y3 | apply Y1 | apply Y2 | refine Y4 ?_ GE321.out))); (case side2 => repeat (first | exact (Kd.C_below HR0_4.out HB.out) | (with_reducible refine Kd.C_alloc ?_ _) | (with_reducible refine Kd.C_drewN ?_ _) | (with_reducible refine Kd.C_drew ?_))); (case side3 => exact HC0_4.out); rintro e w7 ⟨rfl, hb⟩; refine ⟨_, rfl, ?_⟩; have n0_ := Y0 (blk_below (g := gb321) (o := .cells #[.int .i64 a0_0, .string a0_1, .int .i64 a0_2, .int .i64 a0_3, .slice A0_4 l0_4.length c0_4] 39 (0, 0)) (by (with_reducible repeat first | apply Y11 | apply Y13 | apply Y12); exact BK321.out) hb); have n1_ := Y0 (below_step (by repeat (with_reducible first | exact HB.out | apply Y3 | apply Y1 | apply Y2 | refine Y4 ?_ GE321.out)) hb); clear BK321; clear HB; have BK321 := n0_; have HB := n1_; clear n0_ n1_; (try clear hb); (try clear hb2); (try clear hk); (try clear hi); have ⟨hcz8_0, hcz8_1, hcz8_2, hcz8_3, hcz8_4, hfz8_0, hfz8_1, hfz8_2, hfz8_3, hfz8_4⟩ := sq_box5 BK321.out) | ((with_reducible refine gate_callee (f := 51) rfl ?_); refine goesL_ (some 7) rfl rfl Tryd.func51 (by kernel_rfl) rfl #[.agg #[.int .i64 a0_0, .string a0_1, .int .i64 a0_2, .int .i64 a0_3, .slice A0_4 l0_4.length c0_4]] rfl (by (try simp only [List.map_toArray, List.map_cons, List.map_nil]); first | done | rfl | (simp only [List.length_drop, List.length_take]; rfl)) ?_; (with_reducible refine (sexp_text.calls a0_0 a0_1 a0_2 a0_3 _ _ l0_4 t323 _ ?side1 ?side2 A4.out).mono ?_); (case side1 => repeat (first | exact (Kd.C_below HR0_4.out HB.out) | (with_reducible refine Kd.C_alloc ?_ _) | (with_reducible refine Kd.C_drewN ?_ _) | (with_reducible refine Kd.C_drew ?_))); (case side2 => exact HC0_4.out); rintro e w9 ⟨rfl, hb⟩; refine ⟨_, rfl, ?_⟩; have n0_ := Y0 (blk_below (g := gb321) (o := .cells #[.int .i64 a0_0, .string a0_1, .int .i64 a0_2, .int .i64 a0_3, .slice A0_4 l0_4.length c0_4] 39 (0, 0)) (by (with_reducible repeat first | apply Y11 | apply Y13 | apply Y12); exact BK321.out) hb); have n1_ := Y0 (below_step (by repeat (with_reducible first | exact HB.out | apply Y3 | apply Y1 | apply Y2 | refine Y4 ?_ GE321.out)) hb); clear BK321; clear HB; have BK321 := n0_; have HB := n1_; clear n0_ n1_; (try clear hb); (try clear hb2); (try clear hk); (try clear hi)))
 go_ret
 exact ⟨by first | rfl | (simp [] <;> rfl) | (simp [*] <;> rfl), by repeat (with_reducible first | exact HB.out | apply Y3 | apply Y1 | apply Y2 | refine Y4 ?_ GE321.out)⟩
def sexp_does.j0 : Nat → Bool → Int → ByteArray → Int → Int → Option (Int)
 | 0, _, _, _, _, _ => none
 | k + 1, x3, x312000, x312001, x312002, x312003 => if x3 = true then (some 0) else (if x312001.toList = ([40] : List UInt8) then (some 1) else (if x312001.toList = ([41] : List UInt8) then (some 2) else (some 3)))
def sexp_does.f (k : Nat) (a0_0 : Int) (a0_1 : ByteArray) (a0_2 : Int) (a0_3 : Int) : Option (Int) := if a0_0 = 3 then (sexp_does.j0 k (a0_1.toList == ([46] : List UInt8)) a0_0 a0_1 a0_2 a0_3) else (sexp_does.j0 k (a0_0 != 3) a0_0 a0_1 a0_2 a0_3)
set_option maxHeartbeats 8000000 in
set_option maxRecDepth 100000 in
theorem sexp_does.calls (k : Nat) (a0_0 : Int) (a0_1 : ByteArray) (a0_2 : Int) (a0_3 : Int) (r : Int) (w : World) (h : sexp_does.f k a0_0 a0_1 a0_2 a0_3 = some r) :
  Calls Tryd.prog 45 #[.agg #[.int .i64 a0_0, .string a0_1, .int .i64 a0_2, .int .i64 a0_3]] w fun e w' => e = .returned (.int .i64 r) ∧ Below w.heap.size w w' := by
 have hu29 := Tryd.underlying29
 have HB := Y0 (Below.refl w.heap.size w)
 have H : (if a0_0 = 3 then (sexp_does.j0 k (a0_1.toList == ([46] : List UInt8)) a0_0 a0_1 a0_2 a0_3) else (sexp_does.j0 k (a0_0 != 3) a0_0 a0_1 a0_2 a0_3)) = some r := h
 clear h
 have HC2 := Y0 H
 clear H
 go_enter Tryd.func45, Tryd.ntmps45
 go_upto_if 3 with (first | ((with_reducible refine gate_dst (N := 1) rfl ?_); refine box_event ?hg (N := 1) ?hd (cs := #[.int .i64 a0_0, .string a0_1, .int .i64 a0_2, .int .i64 a0_3]) (t := 29) ?hr ?_; (case hd => rfl); (case hg => rfl); (case hr => first | (go_simp; done) | (go_simp; rfl)); intro gb311 hg w3 hbox hb; have n0_ := Y0 (below_step (by repeat (with_reducible first | exact HB.out | apply Y3 | apply Y1 | apply Y2)) hb); have n1_ := Y0 (hbox); have n2_ := Y0 ((by rw [hg]; exact (below_size (by repeat (with_reducible first | exact HB.out | apply Y3 | apply Y1 | apply Y2))) : w.heap.size ≤ gb311)); have n3_ := Y0 ((by rw [hg]; exact (below_size (by repeat (with_reducible first | exact HB.out | apply Y3 | apply Y1 | apply Y2))) : w.heap.size ≤ gb311)); clear HB; have HB := n0_; have BK311 := n1_; have GW311 := n2_; have GE311 := n3_; clear n0_ n1_ n2_ n3_; clear hb hbox hg; have ⟨hcz4_0, hcz4_1, hcz4_2, hcz4_3, hfz4_0, hfz4_1, hfz4_2, hfz4_3⟩ := sq_box4 BK311.out))
 (try simp only [Act.put, Y14, Y15, Y16])
 go_cut [3] (fun v3 wc => ∃ (kq : Nat) (x3_1 : Bool), v3 = .bool x3_1 ∧ Aside0 (sexp_does.j0 kq x3_1 a0_0 a0_1 a0_2 a0_3 = some r) ∧ Aside0 (kq ≤ k) ∧ Aside0 (wc.heap[gb311]? = some (.cells #[.int .i64 a0_0, .string a0_1, .int .i64 a0_2, .int .i64 a0_3] 29 (0, 0))) ∧ Aside0 (Below w.heap.size w wc))
 case first =>
  have H := HC2.out
  clear HC2
  by_cases c5 : a0_0 = 3
  rotate_left
  ·rw [if_neg c5] at H
   have c5b0 : (a0_0 == 3) = false := beq_eq_false_iff_ne.mpr c5
   have c5b1 : (a0_0 != 3) = true := bne_iff_ne.mpr c5
   (first | rw [c5b0] | (simp only [i64_w]; rw [c5b0]) | skip)
   have H' := Y0 H
   clear H
   go_wp2
   go_meet
   case rel => exact ⟨_, ((a0_0 != 3)), (by first | rfl | (simp; done) | (simp [*]; done)), H', ⟨by first | omega | exact Nat.le_refl _⟩, ⟨by (with_reducible repeat first | apply Y11 | apply Y13 | apply Y12); exact BK311.out⟩, ⟨by repeat (with_reducible first | exact HB.out | apply Y3 | apply Y1 | apply Y2 | refine Y4 ?_ GE311.out)⟩⟩
  rw [if_pos c5] at H
  have c5b0 : (a0_0 == 3) = true := beq_iff_eq.mpr c5
  have c5b1 : (a0_0 != 3) = false := bne_eq_false_iff_eq.mpr c5
  clear c5
  (first | rw [c5b0] | (simp only [i64_w]; rw [c5b0]) | skip)
  have H' := Y0 H
  clear H
  have ⟨hcz6_0, hcz6_1, hcz6_2, hcz6_3, hfz6_0, hfz6_1, hfz6_2, hfz6_3⟩ := sq_box4 BK311.out
  go_wp2
  go_meet
  case rel => exact ⟨_, ((a0_1.toList == ([46] : List UInt8))), (by first | rfl | (simp; done) | (simp [*]; done)), H', ⟨by first | omega | exact Nat.le_refl _⟩, ⟨by (with_reducible repeat first | apply Y11 | apply Y13 | apply Y12); exact BK311.out⟩, ⟨by repeat (with_reducible first | exact HB.out | apply Y3 | apply Y1 | apply Y2 | refine Y4 ?_ GE311.out)⟩⟩
 case rest =>
  clear HC2
  obtain ⟨kq, x3_1, rfl, HA, HJ1, BK311, HB⟩ := hcut
  cases kq with
  | zero => exact absurd HA.out (by simp [sexp_does.j0])
  | succ kj1 =>
   have H := HA.out
   clear HA
   simp only [sexp_does.j0] at H
   by_cases c7 : x3_1 = true
   ·subst c7
    rw [if_pos rfl] at H
    obtain rfl := Option.some.inj H
    go_wp2
    go_ret
    exact ⟨by first | rfl | (simp [] <;> rfl) | (simp [*] <;> rfl), by repeat (with_reducible first | exact HB.out | apply Y3 | apply Y1 | apply Y2 | refine Y4 ?_ GE311.out)⟩
   replace c7 := Bool.eq_false_iff.mpr c7
   subst c7
   rw [if_neg (show ¬ (false = true) by decide)] at H
   by_cases c8 : a0_1.toList = ([40] : List UInt8)
   ·rw [if_pos c8] at H
    have c8b0 : (a0_1.toList == ([40] : List UInt8)) = true := beq_iff_eq.mpr c8
    have c8b1 : (a0_1.toList != ([40] : List UInt8)) = false := bne_eq_false_iff_eq.mpr c8
    clear c8
    obtain rfl := Option.some.inj H
    have ⟨hcz9_0, hcz9_1, hcz9_2, hcz9_3, hfz9_0, hfz9_1, hfz9_2, hfz9_3⟩ := sq_box4 BK311.out
    go_wp2
    go_ret
    exact ⟨by first | rfl | (simp [] <;> rfl) | (simp [*] <;> rfl), by repeat (with_reducible first | exact HB.out | apply Y3 | apply Y1 | apply Y2 | refine Y4 ?_ GE311.out)⟩
   rw [if_neg c8] at H
   have c8b0 : (a0_1.toList == ([40] : List UInt8)) = false := beq_eq_false_iff_ne.mpr c8
   have c8b1 : (a0_1.toList != ([40] : List UInt8)) = true := bne_iff_ne.mpr c8
   by_cases c10 : a0_1.toList = ([41] : List UInt8)
   rotate_left
   ·rw [if_neg c10] at H
    have c10b0 : (a0_1.toList == ([41] : List UInt8)) = false := beq_eq_false_iff_ne.mpr c10
    have c10b1 : (a0_1.toList != ([41] : List UInt8)) = true := bne_iff_ne.mpr c10
    obtain rfl := Option.some.inj H
    have ⟨hcz12_0, hcz12_1, hcz12_2, hcz12_3, hfz12_0, hfz12_1, hfz12_2, hfz12_3⟩ := sq_box4 BK311.out
    go_wp2
    go_ret
    exact ⟨by first | rfl | (simp [] <;> rfl) | (simp [*] <;> rfl), by repeat (with_reducible first | exact HB.out | apply Y3 | apply Y1 | apply Y2 | refine Y4 ?_ GE311.out)⟩
   rw [if_pos c10] at H
   have c10b0 : (a0_1.toList == ([41] : List UInt8)) = true := beq_iff_eq.mpr c10
   have c10b1 : (a0_1.toList != ([41] : List UInt8)) = false := bne_eq_false_iff_eq.mpr c10
   clear c10
   obtain rfl := Option.some.inj H
   have ⟨hcz11_0, hcz11_1, hcz11_2, hcz11_3, hfz11_0, hfz11_1, hfz11_2, hfz11_3⟩ := sq_box4 BK311.out
   go_wp2
   go_ret
   exact ⟨by first | rfl | (simp [] <;> rfl) | (simp [*] <;> rfl), by repeat (with_reducible first | exact HB.out | apply Y3 | apply Y1 | apply Y2 | refine Y4 ?_ GE311.out)⟩
def doesI (t : TokS) : Int := if t.f0 ≠ 3 ∨ t.f1.toList = [46] then 0 else if t.f1.toList = [40] then 1 else if t.f1.toList = [41] then 2 else 3
theorem does_j0 (b : Bool) (t : TokS) : sexp_does.j0 1 b t.f0 t.f1 t.f2 t.f3 = some (if b = true then 0 else if t.f1.toList = [40] then 1 else if t.f1.toList = [41] then 2 else 3) := by
 show (if b = true then some 0 else _) = _
 repeat' split
 all_goals rfl
theorem does_eq (t : TokS) : sexp_does.f 1 t.f0 t.f1 t.f2 t.f3 = some (doesI t) := by
 unfold sexp_does.f doesI
 rw [does_j0, does_j0]
 by_cases h : t.f0 = 3
 ·rw [if_pos h]
  by_cases h2 : t.f1.toList = [46]
  ·rw [if_pos (beq_iff_eq.2 h2), if_pos (show t.f0 ≠ 3 ∨ t.f1.toList = [46] from .inr h2)]
  ·rw [if_neg (show ¬ (t.f1.toList == [46]) = true by rw [beq_eq_false_iff_ne.2 h2]; decide), if_neg (show ¬ (t.f0 ≠ 3 ∨ t.f1.toList = [46]) by rintro (h3 | h3); exact h3 h; exact h2 h3)]
 ·rw [if_neg h, if_pos (bne_iff_ne.2 h), if_pos (show t.f0 ≠ 3 ∨ t.f1.toList = [46] from .inl h)]
abbrev zN : NodeS := z39
def topN (st : List NodeS) : NodeS := st.getD (st.length - 1) zN
def addTop (st : List NodeS) (x : NodeS) : List NodeS := st.set (st.length - 1) ⟨(topN st).f0, (topN st).f1, (topN st).f2, (topN st).f3, (topN st).f4 ++ [x]⟩
def parseL : List TokS → List NodeS → List NodeS ⊕ (Int × Int)
 | [], st => .inl st
 | t :: ts, st =>
  if st.length = 1 ∧ (topN st).f4.length = 1 then .inr (t.f3, 4) else
  if doesI t = 3 then .inr (t.f3, 4) else
  if doesI t = 2 ∧ st.length = 1 then .inr (t.f3, 4) else
  if doesI t = 1 ∧ st.length > 16 then .inr (t.f3, 2) else
  if doesI t = 1 then parseL ts (st ++ [⟨4, ⟨#[]⟩, 0, t.f3, []⟩]) else
  if doesI t = 2 then parseL ts (addTop (st.take (st.length - 1)) (topN st)) else
  parseL ts (addTop st ⟨t.f0, t.f1, t.f2, t.f3, []⟩)
def parseEnd (n : Int) : List NodeS ⊕ (Int × Int) → NodeS × Int × Int
 | .inr (p, e) => (zN, p, e)
 | .inl st => if st.length > 1 then (zN, n, 4) else if (st.getD 0 zN).f4.length = 0 then (zN, n, 4) else ((st.getD 0 zN).f4.getD 0 zN, n, 0)
def parseN (s : ByteArray) : NodeS × Int × Int := if (allF s).2.2 ≠ 0 then (zN, (allF s).2.1, (allF s).2.2) else parseEnd s.size (parseL (allF s).1 [zN])
def stOk (i : Nat) (st : List NodeS) : Prop := 0 < st.length ∧ st.length ≤ i + 1 ∧ ∀ x ∈ st, x.f4.length ≤ i
theorem topN_mem (st : List NodeS) (h : 0 < st.length) : topN st ∈ st := by
 unfold topN
 rw [List.getD_eq_getElem?_getD, List.getElem?_eq_getElem (by omega)]
 exact List.getElem_mem _
theorem addTop_len (st : List NodeS) (x : NodeS) : (addTop st x).length = st.length := by unfold addTop; simp
theorem stOk_add (i : Nat) (st : List NodeS) (x : NodeS) (h : stOk i st) : stOk (i + 1) (addTop st x) := by
 obtain ⟨h1, h2, h3⟩ := h
 refine ⟨by rw [addTop_len]; exact h1, by rw [addTop_len]; omega, fun y hy => ?_⟩
 unfold addTop at hy
 rcases List.mem_or_eq_of_mem_set hy with hy | hy
 ·have := h3 y hy; omega
 ·rw [hy]
  have := h3 _ (topN_mem st h1)
  simp
  omega
theorem stOk_push (i : Nat) (st : List NodeS) (x : NodeS) (h : stOk i st) (hx : x.f4 = []) : stOk (i + 1) (st ++ [x]) := by
 obtain ⟨h1, h2, h3⟩ := h
 refine ⟨by simp, by simp; omega, fun y hy => ?_⟩
 rcases List.mem_append.1 hy with hy | hy
 ·have := h3 y hy; omega
 ·rw [List.mem_singleton.1 hy, hx]; simp
theorem stOk_pop (i : Nat) (st : List NodeS) (x : NodeS) (h : stOk i st) (h2 : 1 < st.length) : stOk (i + 1) (addTop (st.take (st.length - 1)) x) :=
 stOk_add i _ x ⟨by rw [List.length_take]; omega, by have := h.2.1; rw [List.length_take]; omega, fun y hy => h.2.2 y (List.mem_of_mem_take hy)⟩
theorem H_take {α : Type} {d : Kd α} {e n m cap : Nat} {w : World} {base : Nat} {ok oki : Nat → Prop} {A : Option Addr} {xs : List α} {i : Int} {c : List Value} (h : Kd.H d e w base ok (.slice A n cap) xs i oki c) (hm : m ≤ xs.length) (hi : m ≤ i.toNat) :
  Kd.S d e w base (fun k => ok k ∧ ¬ oki k) (.slice A m cap) (xs.take m) := by
 obtain ⟨_, f, h⟩ := h
 refine ⟨f, ?_⟩
 have h2 := Kd.R_take h (m := m) (by rw [List.length_zipIdx]; exact hm)
 have he : (xs.take m).zipIdx = xs.zipIdx.take m := by
  apply List.ext_getElem?
  intro j
  simp only [List.getElem?_zipIdx, List.getElem?_take]
  split <;> simp [List.getElem?_zipIdx]
 rw [he]
 refine ⟨h2.1, ?_⟩
 obtain ⟨inner, ho, hr⟩ := h2.2
 refine ⟨inner, ho, hr.1, fun j q hj => ?_⟩
 have hM := hr.2 j q hj
 have hq : q.2 ≠ i.toNat := by
  rw [List.getElem?_take] at hj
  split at hj
  ·rw [List.getElem?_zipIdx] at hj
   obtain ⟨x, _, rfl⟩ := Option.map_eq_some_iff.1 hj
   simp only
   omega
  ·cases hj
 exact hM.2 hq
theorem setCell_comm (w : World) (p q : Addr) (h : p.block ≠ q.block) (u v : Value) : (w.setCell p u).setCell q v = (w.setCell q v).setCell p u := by
 have hh : ∀ (a b : World), a.heap = b.heap → { a with heap := #[] } = { b with heap := #[] } → a = b := by
  intro a b h1 h2
  cases a
  cases b
  simp only [World.mk.injEq] at *
  simp_all
 refine hh _ _ ?_ rfl
 apply Array.ext_getElem?
 intro k
 simp only [World.setCell, Array.getElem?_modify]
 by_cases h1 : p.block = k
 ·subst h1
  rw [if_neg (Ne.symm h), if_pos rfl, if_pos rfl, if_neg (Ne.symm h)]
 ·by_cases h2 : q.block = k
  ·subst h2
   rw [if_pos rfl, if_neg h, if_neg h, if_pos rfl]
  ·rw [if_neg h2, if_neg h1, if_neg h1, if_neg h2]
theorem setCells_setCell {g : Nat} {p : Addr} (h : g ≠ p.block) (u : Value) : ∀ (vs : List Value) (o : Nat) (w : World), (w.setCells g o vs).setCell p u = (w.setCell p u).setCells g o vs
 | [], _, _ => rfl
 | v :: r, o, w => by
  rw [World.setCells, World.setCells, setCells_setCell h u r (o + 1), setCell_comm w ⟨g, o, none⟩ p h v u]
theorem store_row {P : Program} {ops : Array Oper} {o : Oper} {a : Act} {Q : Exit → Act → World → Prop} {K : Act → World → Prop} {W : World} (hw : Region.wanted o (yielded ops a.tmps) = true) (hN : o.dst = none) (t : TypeId) (p x : Operand) (ho : o.op = .store t p x)
  {g o' : Nat} {e : TypeId} {cur : Array Value} {u : Value} {seg : List Value} (haddr : a.eval p = .pointer (some ⟨g, o', none⟩)) (hx : a.eval x = u) (hu : u.cells.toList = seg) (ht : (P.info? t).map (·.size) = some seg.length)
  (hh : W.heap[g]? = some (.cells cur e (0, 0))) (hfit : o' + seg.length ≤ cur.size) (h1 : ∀ q ∈ seg, q.oneCell' = true) (h : K a (W.setCells g o' seg)) :
  if Region.wanted o (yielded ops a.tmps) = true then Oper.wp P o a W K Q else K (a.put none undef) W := by
 rw [if_pos hw]
 have hrun := run_store_run (P := P) t u seg hh hu ht hfit h1
 unfold Oper.wp execOp
 simp only [ho, haddr, hx, Sem.run_bind, Sem.run_pure, Result.andThen_ok, hrun]
 show K (a.put o.dst undef) _
 rw [hN]
 exact h
theorem top_put {w1 : World} {B g n cap h c1 m : Nat} {okw okp : Nat → Prop} {st : List NodeS} {x : NodeS} {cs : List Value} {v4 : Value}
  (HH : Kd.H k39 39 w1 B (fun _ => True) (.slice (some ⟨g, 0, none⟩) n cap) st (m : Int) okw [.int .i64 (topN st).f0, .string (topN st).f1, .int .i64 (topN st).f2, .int .i64 (topN st).f3, v4])
  (HR : Kd.R k39 39 w1 B okw (.slice (some ⟨h, 0, none⟩) ((topN st).f4.length + 1) c1) ((topN st).f4 ++ [zN]))
  (HM : k39.M w1 B okp x cs) (hcs : cs.length = 5) (hokp : ∀ k, okp k → okw k ∧ k ≠ h) (hmn : st.length = m + 1) (hn : n = m + 1) :
  Kd.S k39 39 ((w1.setCells h ((topN st).f4.length * 5) cs).setCells g (m * 5 + 4) [.slice (some ⟨h, 0, none⟩) ((topN st).f4.length + 1) c1]) B (fun _ => True) (.slice (some ⟨g, 0, none⟩) n cap) (addTop st x) := by
 obtain ⟨c, hcl, _, hcc⟩ := Kd.R_getA HR zN ((topN st).f4.length : Int) (by omega) (by omega)
 rw [Int.toNat_natCast] at hcc
 have hR2 := Kd.R_seg HR ((topN st).f4.length : Int) (by omega) (by omega) (c := c) (seg := cs) (j := 0) (x' := x) (okp := okp) hcl
  (fun j u hu => by have := hcc j u hu; rw [add_plain] at this; rw [Int.toNat_natCast]; simpa using this) (by rw [hcs]; decide)
  (by rw [List.take_zero, List.nil_append, Nat.zero_add, List.drop_of_length_le (by rw [hcl, hcs]; decide), List.append_nil]; exact HM) hokp
 rw [Int.toNat_natCast, Nat.add_zero, show ((topN st).f4 ++ [zN]).set (topN st).f4.length x = (topN st).f4 ++ [x] from by simp] at hR2
 obtain ⟨HR2, hg2⟩ := hR2
 have hng : ¬ okw g := by
  obtain ⟨_, f, hR⟩ := HH
  exact (hR.1 g (by simp [Value.ownBlock])).2
 have H2 := Kd.H_grown HH hg2 (fun k hk => by injection hk with hk; subst hk; exact HR.1 _ (by simp [Value.ownBlock]))
 have H3 := Kd.H_seg H2 (by omega) (by omega) (seg := [.slice (some ⟨h, 0, none⟩) ((topN st).f4.length + 1) c1]) (j := 4) (Nat.le_refl 5) (by intro q hq; rw [List.mem_singleton.1 hq]; rfl)
 rw [Int.toNat_natCast] at H3
 obtain ⟨H3, hg3⟩ := H3
 have HR3 := Kd.R_grown HR2 hg3 (fun k hk he => by injection he with he; subst he; exact hng hk)
 have hM := k39_mkM _ B okw (⟨(topN st).f0, (topN st).f1, (topN st).f2, (topN st).f3, (topN st).f4 ++ [x]⟩ : NodeS) (v4 := .slice (some ⟨h, 0, none⟩) ((topN st).f4.length + 1) c1) HR3
 have := Kd.H_back H3 hM (fun _ h => h)
 unfold addTop
 rw [hmn, Nat.add_sub_cancel]
 rw [Int.toNat_natCast] at this
 exact this
theorem cells_below {B : Nat} {w : World} {g : Nat} (hg : B ≤ g) : ∀ (vs : List Value) (o : Nat) {W : World}, Below B w W → Below B w (W.setCells g o vs)
 | [], _, _, h => h
 | v :: r, o, W, h => by
  rw [World.setCells]
  exact cells_below hg r (o + 1) (h.setCell (p := ⟨g, o, none⟩) hg v)
theorem row_at {α : Type} {d : Kd α} {e g n cap : Nat} {W : World} {base : Nat} {ok : Nat → Prop} {xs : List α} (h : d.R e W base ok (.slice (some ⟨g, 0, none⟩) n cap) xs) : ∃ cur, W.heap[g]? = some (.cells cur e (0, 0)) ∧ n * d.sz ≤ cur.size := by
 have hnx : n = xs.length := (Kd.R_reads' h).1
 obtain ⟨inner, hown⟩ := Kd.R_own h
 rcases hown.2 with ⟨hv, _⟩ | ⟨g', cap', cur, hv, hb, hh, hnc, hcm, hcs, _⟩
 ·cases hv
 injection hv with ha _ hc
 injection ha with ha
 injection ha with hg'
 subst hg'
 subst hc
 have h3 : n * d.sz ≤ cap * d.sz := Nat.mul_le_mul_right _ (by omega)
 exact ⟨cur, hh, by omega⟩
theorem top_open {W : World} {B g n cap m : Nat} {st : List NodeS} (h : Kd.S k39 39 W B (fun _ => True) (.slice (some ⟨g, 0, none⟩) n cap) st) (hmn : st.length = m + 1) (hn : n = m + 1) :
  ∃ (okw : Nat → Prop) (A4 : Option Addr) (c4 : Nat), (∀ k, W.heap.size ≤ k → okw k) ∧ Kd.R k39 39 W B okw (.slice A4 (topN st).f4.length c4) (topN st).f4 ∧ W.cell? ⟨g, m * 5 + 4, none⟩ = some (.slice A4 (topN st).f4.length c4) ∧
   Kd.H k39 39 W B (fun _ => True) (.slice (some ⟨g, 0, none⟩) n cap) st (m : Int) okw [.int .i64 (topN st).f0, .string (topN st).f1, .int .i64 (topN st).f2, .int .i64 (topN st).f3, .slice A4 (topN st).f4.length c4] := by
 obtain ⟨oki, c, h1, h2, h3, h4, h5⟩ := Kd.S_lend h zN (m : Int) (by omega) (by omega)
 rw [Int.toNat_natCast, show st.getD m zN = topN st from by unfold topN; rw [hmn, Nat.add_sub_cancel]] at h2
 obtain ⟨v4, rfl, hR⟩ := k39_openM h2
 obtain ⟨A4, c4, rfl⟩ := Kd.R_slice hR
 refine ⟨fun k => oki k ∨ True ∧ W.heap.size ≤ k, A4, c4, fun k hk => .inr ⟨trivial, hk⟩, Kd.R_mono hR (fun k hk => .inl hk), ?_, Kd.H_widen h5⟩
 have := h3 4 _ rfl
 rw [Int.toNat_natCast] at this
 exact this
theorem doesI_cases (t : TokS) : doesI t = 0 ∨ doesI t = 1 ∨ doesI t = 2 ∨ doesI t = 3 := by
 unfold doesI
 repeat' split
 all_goals decide
theorem hole_row {α : Type} {d : Kd α} {e g n cap : Nat} {W : World} {base : Nat} {ok oki : Nat → Prop} {xs : List α} {i : Int} {c : List Value} (h : Kd.H d e W base ok (.slice (some ⟨g, 0, none⟩) n cap) xs i oki c) :
  (∃ cur, W.heap[g]? = some (.cells cur e (0, 0)) ∧ n * d.sz ≤ cur.size) ∧ ¬ oki g := by
 obtain ⟨_, f, hR⟩ := h
 have hr := row_at hR
 exact ⟨hr, (hR.1 g (by simp [Value.ownBlock])).2⟩
theorem pop_open {W : World} {B g n cap q : Nat} {st : List NodeS} (h : Kd.S k39 39 W B (fun _ => True) (.slice (some ⟨g, 0, none⟩) n cap) st) (hmn : st.length = q + 1 + 1) (hn : n = q + 1 + 1) :
  ∃ (okp okw okx : Nat → Prop) (A4 A5 : Option Addr) (c4 c5 : Nat), (∀ k, W.heap.size ≤ k → okw k) ∧ Kd.R k39 39 W B okw (.slice A4 (topN (st.take (q + 1))).f4.length c4) (topN (st.take (q + 1))).f4 ∧ W.cell? ⟨g, q * 5 + 4, none⟩ = some (.slice A4 (topN (st.take (q + 1))).f4.length c4) ∧
   k39.M W B okp (topN st) [.int .i64 (topN st).f0, .string (topN st).f1, .int .i64 (topN st).f2, .int .i64 (topN st).f3, .slice A5 (topN st).f4.length c5] ∧
   (∀ j u, ([.int .i64 (topN st).f0, .string (topN st).f1, .int .i64 (topN st).f2, .int .i64 (topN st).f3, .slice A5 (topN st).f4.length c5] : List Value)[j]? = some u → W.cell? ⟨g, (q + 1) * 5 + j, none⟩ = some u) ∧
   (∀ k, okp k → okx k ∧ k < W.heap.size ∧ ¬ okw k) ∧ (∀ k, okw k → okx k) ∧
   Kd.H k39 39 W B (fun _ => True) (.slice (some ⟨g, 0, none⟩) (q + 1) cap) (st.take (q + 1)) (q : Int) okx [.int .i64 (topN (st.take (q + 1))).f0, .string (topN (st.take (q + 1))).f1, .int .i64 (topN (st.take (q + 1))).f2, .int .i64 (topN (st.take (q + 1))).f3, .slice A4 (topN (st.take (q + 1))).f4.length c4] := by
 obtain ⟨oki, c, h1, h2, h3, h4, h5⟩ := Kd.S_lend h zN ((q + 1 : Nat) : Int) (by omega) (by omega)
 have e1 : st.getD (q + 1) zN = topN st := by unfold topN; rw [hmn, Nat.add_sub_cancel]
 rw [Int.toNat_natCast, e1] at h2
 obtain ⟨v5, rfl, hR⟩ := k39_openM h2
 obtain ⟨A5, c5, rfl⟩ := Kd.R_slice hR
 have h6 := H_take h5 (m := q + 1) (by omega) (by rw [Int.toNat_natCast]; exact Nat.le_refl _)
 obtain ⟨okj, d, i1, i2, i3, i4, i5⟩ := Kd.S_lend h6 zN (q : Int) (by omega) (by omega)
 have e2 : (st.take (q + 1)).getD q zN = topN (st.take (q + 1)) := by unfold topN; rw [List.length_take, hmn, Nat.min_eq_left (by omega), Nat.add_sub_cancel]
 rw [Int.toNat_natCast, e2] at i2
 obtain ⟨v4, rfl, hR4⟩ := k39_openM i2
 obtain ⟨A4, c4, rfl⟩ := Kd.R_slice hR4
 have h7 := Kd.H_widen (Kd.H_more i5 (fun _ _ => trivial))
 have hb := k39.M_bound h2
 refine ⟨_, fun k => okj k ∨ True ∧ W.heap.size ≤ k, _, A4, A5, c4, c5, fun k hk => .inr ⟨trivial, hk⟩, Kd.R_mono hR4 (fun k hk => .inl hk), ?_, hb, ?_, ?_, ?_, h7⟩
 ·have := i3 4 _ rfl
  rw [Int.toNat_natCast] at this
  exact this
 ·intro j u hu
  have := h3 j u hu
  rw [Int.toNat_natCast] at this
  exact this
 ·intro k hk
  refine ⟨.inl (.inr hk.1), hk.2.2.1, ?_⟩
  rintro (h8 | h8)
  ·exact (i4 k h8).1.2 hk.1
  ·have := hk.2.2.1; have := h8.2; omega
 ·intro k hk
  rcases hk with hk | hk
  ·exact .inl (.inl hk)
  ·exact .inr hk
theorem row_cap {α : Type} {d : Kd α} {e g n cap : Nat} {W : World} {base : Nat} {ok : Nat → Prop} {xs : List α} (h : d.R e W base ok (.slice (some ⟨g, 0, none⟩) n cap) xs) : n ≤ cap := by
 have hnx : n = xs.length := (Kd.R_reads' h).1
 obtain ⟨inner, hown⟩ := Kd.R_own h
 rcases hown.2 with ⟨hv, _⟩ | ⟨g', cap', cur, hv, hb, hh, hnc, hcm, hcs, _⟩
 ·cases hv
 injection hv with ha _ hc
 subst hc
 omega
def ParsePost (w : World) (r : NodeS × Int × Int) (e : Ending) (w' : World) : Prop := ∃ v4 : Value, e = .returned (.tuple #[.agg #[.int .i64 r.1.f0, .string r.1.f1, .int .i64 r.1.f2, .int .i64 r.1.f3, v4], .int .i64 r.2.1, .int .i64 r.2.2]) ∧ Kd.R k39 39 w' w.heap.size (fun _ => True) v4 r.1.f4 ∧ Below w.heap.size w w'
theorem sexpParse_ret {w V : World} {tmps : Array Value} {r : NodeS × Int × Int} {v4 : Value} (ht : tmps.getD 2 undef = .pointer (some ⟨w.heap.size, 0, none⟩)) (h3 : tmps.getD 3 undef = .int .i64 r.2.1) (h4 : tmps.getD 4 undef = .int .i64 r.2.2)
  (hb : V.heap[w.heap.size]? = some (.cells #[.int .i64 r.1.f0, .string r.1.f1, .int .i64 r.1.f2, .int .i64 r.1.f3, v4] 39 (0, 0))) (hR : Kd.R k39 39 V w.heap.size (fun _ => True) v4 r.1.f4) (hB : Below w.heap.size w V) :
  bodyPost Tryd.prog Tryd.f24 (ParsePost w r) .ret { tmps := tmps, defers := [] } V := by
 refine bodyPost_ret (results_ctt rfl _ _ w.heap.size 39 _ (0, 0) _ ht hb Tryd.underlying39 rfl (by kernel_rfl)) rfl ⟨v4, ?_, hR, hB⟩
 rw [h3, h4]
theorem box_put5 {V : World} {g : Nat} {t : TypeId} {c0 c1 c2 c3 c4 : Value} (h : V.heap[g]? = some (.cells #[c0, c1, c2, c3, c4] t (0, 0))) (u0 u1 u2 u3 u4 : Value) :
  (((((V.setCell ⟨g, 0, none⟩ u0).setCell ⟨g, 1, none⟩ u1).setCell ⟨g, 2, none⟩ u2).setCell ⟨g, 3, none⟩ u3).setCell ⟨g, 4, none⟩ u4).heap[g]? = some (.cells #[u0, u1, u2, u3, u4] t (0, 0)) :=
 blk_set (blk_set (blk_set (blk_set (blk_set h 0 u0) 1 u1) 2 u2) 3 u3) 4 u4
theorem set5_below {B : Nat} {W V : World} {g : Nat} (h : Below B W V) (hg : B ≤ g) (u0 u1 u2 u3 u4 : Value) : Below B W (((((V.setCell ⟨g, 0, none⟩ u0).setCell ⟨g, 1, none⟩ u1).setCell ⟨g, 2, none⟩ u2).setCell ⟨g, 3, none⟩ u3).setCell ⟨g, 4, none⟩ u4) :=
 ((((h.setCell (p := ⟨g, 0, none⟩) hg u0).setCell (p := ⟨g, 1, none⟩) hg u1).setCell (p := ⟨g, 2, none⟩) hg u2).setCell (p := ⟨g, 3, none⟩) hg u3).setCell (p := ⟨g, 4, none⟩) hg u4
set_option maxRecDepth 100000 in
set_option maxHeartbeats 8000000 in
theorem sexpParse_err (s : ByteArray) (w : World) (hG : GInv w) (he : (allF s).2.2 ≠ 0) : Calls Tryd.prog 24 #[.string s] w (ParsePost w (zN, (allF s).2.1, (allF s).2.2)) := by
 have HA := Y0 (fun (W : World) (h : GInv W) => token_All.calls s (allF s).1 (allF s).2.1 (allF s).2.2 W h rfl)
 have HG := Y0 (hG.below (below_alloc (Below.refl _ w) (.cells #[.int .i64 0, .string ⟨#[]⟩, .int .i64 0, .int .i64 0, .slice none 0 0] 39)))
 have hn : ((allF s).2.2 != 0) = true := bne_iff_ne.2 he
 clear he hG
 generalize (allF s).1 = l at *
 generalize (allF s).2.1 = p at *
 generalize (allF s).2.2 = e at *
 go_enter Tryd.func24, Tryd.ntmps24
 go_wp2_with (go_at_call 16; refine (HA.out _ HG.out).mono ?_; rintro e1 W1 ⟨v0, rfl, hR, hB⟩; have hb0 := blk_below (blk_new w (.cells #[.int .i64 0, .string ⟨#[]⟩, .int .i64 0, .int .i64 0, .slice none 0 0] 39)) hB; have q0 := (blk_cell hb0 0).trans rfl; have q1 := (blk_cell hb0 1).trans rfl; have q2 := (blk_cell hb0 2).trans rfl; have q3 := (blk_cell hb0 3).trans rfl; have q4 := (blk_cell hb0 4).trans rfl; have f0 := blk_frozen hb0 0; have f1 := blk_frozen hb0 1; have f2 := blk_frozen hb0 2; have f3 := blk_frozen hb0 3; have f4 := blk_frozen hb0 4; have HB0 := Y0 hb0; have HB := Y0 hB; clear hR hB hb0)
 have k1 := box_put5 HB0.out (.int .i64 0) (.string ⟨#[]⟩) (.int .i64 0) (.int .i64 0) (.slice none 0 0)
 have k2 := set5_below (g := w.heap.size) (below_step (below_alloc (Below.refl w.heap.size w) _) HB.out) (Nat.le_refl _) (.int .i64 0) (.string ⟨#[]⟩) (.int .i64 0) (.int .i64 0) (.slice none 0 0)
 refine sexpParse_ret (r := (zN, p, e)) (v4 := .slice none 0 0) ?_ ?_ ?_ k1 (Kd.R_nil _ _ _ _ _) k2
 ·rfl
 ·rfl
 ·rfl
theorem drew_blk {V : World} {g : Nat} {b : Obj} (h : V.heap[g]? = some b) : V.drew.heap[g]? = some b := h
theorem drew_cell {V : World} {p : Addr} {v : Option Value} (h : V.cell? p = v) : V.drew.cell? p = v := h
theorem set5_far (V : World) (g k : Nat) (h : k ≠ g) (u0 u1 u2 u3 u4 : Value) : (((((V.setCell ⟨g, 0, none⟩ u0).setCell ⟨g, 1, none⟩ u1).setCell ⟨g, 2, none⟩ u2).setCell ⟨g, 3, none⟩ u3).setCell ⟨g, 4, none⟩ u4).heap[k]? = V.heap[k]? := by
 rw [Below.heap_setCell _ ⟨g, 4, none⟩ u4 k h, Below.heap_setCell _ ⟨g, 3, none⟩ u3 k h, Below.heap_setCell _ ⟨g, 2, none⟩ u2 k h, Below.heap_setCell _ ⟨g, 1, none⟩ u1 k h, Below.heap_setCell _ ⟨g, 0, none⟩ u0 k h]
theorem R_set5 {V : World} {B g : Nat} {ok : Nat → Prop} {v : Value} {xs : List NodeS} (h : k39.R 39 V B ok v xs) (hg : g < B) (u0 u1 u2 u3 u4 : Value) :
  k39.R 39 (((((V.setCell ⟨g, 0, none⟩ u0).setCell ⟨g, 1, none⟩ u1).setCell ⟨g, 2, none⟩ u2).setCell ⟨g, 3, none⟩ u3).setCell ⟨g, 4, none⟩ u4) g (fun _ => True) v xs :=
 Kd.R_lower (Kd.R_mono (Kd.R_step (Kd.R_bound h) (fun k hk _ => set5_far V g k (by have := hk.2.1; omega) u0 u1 u2 u3 u4)) (fun _ _ => trivial)) (Nat.le_of_lt hg)
theorem zN_M (W : World) (base : Nat) (ok : Nat → Prop) : k39.M W base ok zN [.int .i64 0, .string ⟨#[]⟩, .int .i64 0, .int .i64 0, .slice none 0 0] := k39_mkM W base ok zN (v4 := .slice none 0 0) (Kd.R_nil _ _ _ _ _)
abbrev StS (W : World) (B g cap : Nat) (st : List NodeS) : Prop := Kd.S k39 39 W B (fun _ => True) (.slice (some ⟨g, 0, none⟩) st.length cap) st
theorem st_init (W : World) : StS (W.alloc (.cells #[.int .i64 0, .string ⟨#[]⟩, .int .i64 0, .int .i64 0, .slice none 0 0] 39 (0, 0))) W.heap.size W.heap.size 1 [zN] := by
 refine Kd.S_bare ⟨fun _ _ => trivial, [.int .i64 0, .string ⟨#[]⟩, .int .i64 0, .int .i64 0, .slice none 0 0], World.ownsRow_lit (base := W.heap.size) (e := 39) (size := 5) W #[.int .i64 0, .string ⟨#[]⟩, .int .i64 0, .int .i64 0, .slice none 0 0] 1 (Nat.le_refl _) (by decide) rfl, rfl, fun j p hj => ?_⟩
 match j, hj with
 | 0, hj =>
  simp only [List.getElem?_cons_zero, Option.some.injEq] at hj
  subst hj
  exact zN_M _ _ _
theorem st_top {W : World} {B g cap : Nat} {st : List NodeS} (h : StS W B g cap st) (hp : 0 < st.length) : ∃ (A4 : Option Addr) (c4 : Nat),
  W.cell? ⟨g, (st.length - 1) * 5 + 4, none⟩ = some (.slice A4 (topN st).f4.length c4) := by
 obtain ⟨oki, c, h1, h2, h3, h4, h5⟩ := Kd.S_lend h zN ((st.length - 1 : Nat) : Int) (by omega) (by omega)
 obtain ⟨v4, rfl, hR⟩ := k39_openM h2
 obtain ⟨A4, c4, e, _⟩ := Kd.R_reads hR
 have := h3 4 _ rfl
 rw [Int.toNat_natCast] at this
 refine ⟨A4, c4, ?_⟩
 rw [show topN st = st.getD ((st.length - 1 : Nat) : Int).toNat zN from by rw [Int.toNat_natCast]; rfl, ← e]
 exact this
set_option maxRecDepth 100000 in
set_option maxHeartbeats 8000000 in
theorem sexpParse_ok (s : ByteArray) (l : List TokS) (p : Int) (w : World) (hG : GInv w) (hA : token_All.f s = some (l, p, 0)) (hl : l.length ≤ 1000) (hs : s.size ≤ 140737488351232) : Calls Tryd.prog 24 #[.string s] w (ParsePost w (parseEnd s.size (parseL l [zN]))) := by
 have HA := Y0 (fun (W : World) (h : GInv W) => token_All.calls s l p 0 W h hA)
 have HG := Y0 (hG.below (below_alloc (Below.refl _ w) (.cells #[.int .i64 0, .string ⟨#[]⟩, .int .i64 0, .int .i64 0, .slice none 0 0] 39)))
 clear hG hA
 go_enter Tryd.func24, Tryd.ntmps24
 go_wp2_with fail
 go_at_call 16
 refine (HA.out _ HG.out).mono ?_
 rintro e1 W1 ⟨v0, rfl, hR, hB⟩
 have hb0 := blk_below (blk_new w (.cells #[.int .i64 0, .string ⟨#[]⟩, .int .i64 0, .int .i64 0, .slice none 0 0] 39)) hB
 obtain ⟨A, c, rfl, hlc, hC⟩ := Kd.R_reads hR
 have HB0 := Y0 hb0
 have HB := Y0 hB
 have HC := Y0 hC
 have HLC := Y0 hlc
 clear hR hB hb0 hC hlc
 go_wp2
 have hS0 := Y0 (st_init W1)
 have hBl : Aside0 (Below W1.heap.size W1 (W1.alloc (.cells #[.int .i64 0, .string ⟨#[]⟩, .int .i64 0, .int .i64 0, .slice none 0 0] 39 (0, 0)))) := ⟨below_alloc (Below.refl _ _) _⟩
 obtain ⟨R, HR0⟩ : ∃ R, parseL l [zN] = R := ⟨_, rfl⟩
 have HR := Y0 HR0
 have HRE := Y0 HR0
 clear HR0
 go_loopg [8, 31] l.length (fun nn v8 v31 W => ∃ (i : Nat) (st : List NodeS) (g cap : Nat), v31 = .int .i64 i ∧ v8 = .slice (some ⟨g, 0, none⟩) st.length cap ∧ Aside0 (parseL (l.drop i) st = R) ∧ Aside0 (StS W W1.heap.size g cap st) ∧ Aside0 (Below W1.heap.size W1 W) ∧ Aside0 (i + nn = l.length) ∧ Aside0 (stOk i st))
 case atStart => exact ⟨0, [zN], W1.heap.size, 1, rfl, rfl, HR, hS0, hBl, ⟨by omega⟩, ⟨by decide, by decide, fun x hx => by rw [List.mem_singleton.1 hx]; decide⟩⟩
 case round =>
  clear HR hS0 hBl
  obtain ⟨i, st, g, cap, rfl, rfl, HP, HS, HBl, HN, HO⟩ := hrel
  have hbx := blk_below HB0.out HBl.out
  have HBX := Y0 hbx
  have q0 := (blk_cell hbx 0).trans rfl
  have q1 := (blk_cell hbx 1).trans rfl
  have q2 := (blk_cell hbx 2).trans rfl
  have q3 := (blk_cell hbx 3).trans rfl
  have q4 := (blk_cell hbx 4).trans rfl
  have f0 := blk_frozen hbx 0
  have f1 := blk_frozen hbx 1
  have f2 := blk_frozen hbx 2
  have f3 := blk_frozen hbx 3
  have f4 := blk_frozen hbx 4
  have HW := Y0 (below_step (below_step (below_alloc (Below.refl w.heap.size w) (.cells #[.int .i64 0, .string ⟨#[]⟩, .int .i64 0, .int .i64 0, .slice none 0 0] 39)) HB.out) HBl.out)
  clear hbx
  by_cases hlt : i < l.length
  ·obtain ⟨A4, c4, htop⟩ := st_top HS.out HO.out.1
   obtain ⟨m, hm⟩ : ∃ m, st.length = m + 1 := ⟨st.length - 1, by have := HO.out.1; omega⟩
   rw [hm, Nat.add_sub_cancel] at htop
   have hstep : l.drop i = l[i] :: l.drop (i + 1) := List.drop_eq_getElem_cons hlt
   obtain ⟨ad, hAd, t0, t1, t2, t3⟩ := at_T29 HC.out (i : Int) (by omega) (by omega)
   cases hAd
   have er : rd_T29 l (i : Int) = l[i] := by simp [rd_T29, hlt]
   rw [er, Int.toNat_natCast] at t0 t1 t2 t3
   have t0 := pw_cell_below HBl.out t0
   have t1 := pw_cell_below HBl.out t1
   have t2 := pw_cell_below HBl.out t2
   have t3 := pw_cell_below HBl.out t3
   rw [hstep] at HP
   clear hstep er
   generalize l[i] = t at *
   have HD := Y0 (fun W => sexp_does.calls 1 t.f0 t.f1 t.f2 t.f3 (doesI t) W (does_eq t))
   have HM := Y0 hm
   rw [hm]
   clear hm
   have HNE : Aside0 (wr.heap.size ≠ w.heap.size) := ⟨by have h1 := HB.out.size; have h2 := HBl.out.size; rw [World.size_alloc] at h1; omega⟩
   by_cases hfull : st.length = 1 ∧ (topN st).f4.length = 1
   ·have hR : Aside0 (R = .inr (t.f3, 4)) := ⟨by rw [← HP.out, parseL, if_pos hfull]⟩
    have hm0 : m = 0 := by have := HM.out; omega
    have b2 : (((topN st).f4.length : Int) == 1) = true := beq_iff_eq.2 (by omega)
    clear hfull HP
    subst hm0
    simp only [Nat.zero_mul, Nat.zero_add] at htop
    have hV : Aside0 (parseEnd s.size (parseL l [zN]) = (zN, t.f3, 4)) := ⟨by rw [HRE.out, hR.out, parseEnd]⟩
    clear q0 q1 q2 q3 q4 f0 f1 f2 f3 f4
    go_wp2_with (go_at_call 45; refine (HD.out _).mono ?_; rintro e2 W2 ⟨rfl, hB2⟩; have KB2 := Y0 (below_step (below_alloc (Below.refl wr.heap.size wr) _) hB2); have htop2 := pw_cell_below KB2.out htop; have tb := blk_below (blk_new wr (.cells #[.int .i64 t.f0, .string t.f1, .int .i64 t.f2, .int .i64 t.f3] 29)) hB2; have TB := Y0 tb; have tb0 := (blk_cell tb 0).trans rfl; have tb1 := (blk_cell tb 1).trans rfl; have tb2 := (blk_cell tb 2).trans rfl; have tb3 : W2.cell? ⟨wr.heap.size, 3, none⟩ = some (.int .i64 t.f3) := (blk_cell tb 3).trans rfl; have bx2 := blk_below HBX.out KB2.out; have BX2 := Y0 bx2; have r0 := (blk_cell bx2 0).trans rfl; have r1 := (blk_cell bx2 1).trans rfl; have r2 := (blk_cell bx2 2).trans rfl; have r3 := (blk_cell bx2 3).trans rfl; have r4 := (blk_cell bx2 4).trans rfl; have s0 := blk_frozen bx2 0; have s1 := blk_frozen bx2 1; have s2 := blk_frozen bx2 2; have s3 := blk_frozen bx2 3; have s4 := blk_frozen bx2 4; clear hB2 tb bx2 htop)
    refine start_ (n := 6) (S := fun V => V.cell? ⟨wr.heap.size, 3, none⟩ = some (.int .i64 t.f3)) (ds := []) #[false, false, false, false, false, false] (by kernel_rfl) rfl rfl tb3 (fun hHeld => ?_)
    refine pure_ (i := 0) (N := some 83) (v := ?_) (a' := ?_) #[true, false, false, false, false, false] rfl rfl (by kernel_rfl) (fun _ _ _ h => h) (Or.inl ⟨by rfl, ?_⟩) ?_ ?_
    rotate_left
    ·intro w'
     go_simp
     try with_reducible rfl
    rotate_left
    ·simp only [Act.put, Y14, Y15, Y16]
     rfl
    refine pure_ (i := 1) (N := some 84) (v := ?_) (a' := ?_) #[true, true, false, false, false, false] rfl rfl (by kernel_rfl) (fun _ _ _ h => h) (Or.inl ⟨by rfl, ?_⟩) ?_ ?_
    rotate_left
    ·intro w'
     go_simp
     try with_reducible rfl
    rotate_left
    ·simp only [Act.put, Y14, Y15, Y16]
     rfl
    refine take_ (i := 2) (N := some 85) (v := ?_) (a' := ?_) #[true, true, true, false, false, false] rfl rfl (by kernel_rfl) (fun _ _ _ h => h) (Or.inl ⟨by rfl, ?_⟩) hHeld ?_ ?_
    rotate_left
    ·intro w' hS_
     try dsimp only at hS_
     go_simp
     try with_reducible rfl
    rotate_left
    ·simp only [Act.put, Y14, Y15, Y16]
     rfl
    refine one_ (i := 3) (N := none) #[true, true, true, true, false, false] rfl rfl (by kernel_rfl) (by decide) (fun K hK => ?_)
    go_simp
    refine hK.out _ _ (drew_cell ((blk_cell ((set5_far W2 w.heap.size wr.heap.size HNE.out (.int .i64 0) (.string ⟨#[]⟩) (.int .i64 0) (.int .i64 0) (.slice none 0 0)).trans TB.out) 3).trans rfl)) (fun hHeld => ?_)
    clear hK K
    refine one_ (i := 4) (N := some 3) #[true, true, true, true, true, false] rfl rfl (by kernel_rfl) (by decide) (fun K hK => ?_)
    go_simp
    refine hK.out _ _ hHeld (fun hHeld => ?_)
    clear hK K
    refine one_ (i := 5) (N := some 4) #[true, true, true, true, true, true] rfl rfl (by kernel_rfl) (by decide) (fun K hK => ?_)
    go_simp
    refine hK.out _ _ hHeld (fun hHeld => ?_)
    clear hK K
    refine done_ (by kernel_rfl) ?_
    go_wp2
    rw [hV.out]
    have k1 := drew_blk (box_put5 (V := W2) BX2.out (.int .i64 0) (.string ⟨#[]⟩) (.int .i64 0) (.int .i64 0) (.slice none 0 0))
    have k2 := below_drew1 (set5_below (g := w.heap.size) (below_step HW.out KB2.out) (Nat.le_refl _) (.int .i64 0) (.string ⟨#[]⟩) (.int .i64 0) (.int .i64 0) (.slice none 0 0))
    refine sexpParse_ret (r := (zN, t.f3, 4)) (v4 := .slice none 0 0) ?_ ?_ ?_ k1 (Kd.R_nil _ _ _ _ _) k2
    ·rfl
    ·rfl
    ·rfl
   ·by_cases hd3 : doesI t = 3
    ·have hR : Aside0 (R = .inr (t.f3, 4)) := ⟨by rw [← HP.out, parseL, if_neg hfull, if_pos hd3]⟩
     have hV : Aside0 (parseEnd s.size (parseL l [zN]) = (zN, t.f3, 4)) := ⟨by rw [HRE.out, hR.out, parseEnd]⟩
     rw [hd3] at HD
     clear HP hd3
     have hgu : ((((m : Int) + 1) == 1) = true ∧ (((topN st).f4.length : Int) == 1) = false) ∨ (((m : Int) + 1) == 1) = false := by
      by_cases hm0 : m = 0
      ·exact .inl ⟨beq_iff_eq.2 (by omega), beq_eq_false_iff_ne.2 (by have := HM.out; omega)⟩
      ·exact .inr (beq_eq_false_iff_ne.2 (by omega))
     clear hfull
     have hmb : m ≤ 1000 := by have := HM.out; have := HO.out.2.1; have := HN.out; omega
     rcases hgu with ⟨b1, b2⟩ | b1
     all_goals
      clear q0 q1 q2 q3 q4 f0 f1 f2 f3 f4
      go_wp2_with (go_at_call 45; refine (HD.out _).mono ?_; rintro e2 W2 ⟨rfl, hB2⟩; have KB2 := Y0 (below_step (below_alloc (Below.refl wr.heap.size wr) _) hB2); have htop2 := pw_cell_below KB2.out htop; have tb := blk_below (blk_new wr (.cells #[.int .i64 t.f0, .string t.f1, .int .i64 t.f2, .int .i64 t.f3] 29)) hB2; have TB := Y0 tb; have tb0 := (blk_cell tb 0).trans rfl; have tb1 := (blk_cell tb 1).trans rfl; have tb2 := (blk_cell tb 2).trans rfl; have tb3 : W2.cell? ⟨wr.heap.size, 3, none⟩ = some (.int .i64 t.f3) := (blk_cell tb 3).trans rfl; have bx2 := blk_below HBX.out KB2.out; have BX2 := Y0 bx2; have r0 := (blk_cell bx2 0).trans rfl; have r1 := (blk_cell bx2 1).trans rfl; have r2 := (blk_cell bx2 2).trans rfl; have r3 := (blk_cell bx2 3).trans rfl; have r4 := (blk_cell bx2 4).trans rfl; have s0 := blk_frozen bx2 0; have s1 := blk_frozen bx2 1; have s2 := blk_frozen bx2 2; have s3 := blk_frozen bx2 3; have s4 := blk_frozen bx2 4; clear hB2 tb bx2 htop)
      refine start_ (n := 6) (S := fun V => V.cell? ⟨wr.heap.size, 3, none⟩ = some (.int .i64 t.f3)) (ds := []) #[false, false, false, false, false, false] (by kernel_rfl) rfl rfl tb3 (fun hHeld => ?_)
      refine pure_ (i := 0) (N := some 83) (v := ?_) (a' := ?_) #[true, false, false, false, false, false] rfl rfl (by kernel_rfl) (fun _ _ _ h => h) (Or.inl ⟨by rfl, ?_⟩) ?_ ?_
      rotate_left
      ·intro w'
       go_simp
       try with_reducible rfl
      rotate_left
      ·simp only [Act.put, Y14, Y15, Y16]
       rfl
      refine pure_ (i := 1) (N := some 84) (v := ?_) (a' := ?_) #[true, true, false, false, false, false] rfl rfl (by kernel_rfl) (fun _ _ _ h => h) (Or.inl ⟨by rfl, ?_⟩) ?_ ?_
      rotate_left
      ·intro w'
       go_simp
       try with_reducible rfl
      rotate_left
      ·simp only [Act.put, Y14, Y15, Y16]
       rfl
      refine take_ (i := 2) (N := some 85) (v := ?_) (a' := ?_) #[true, true, true, false, false, false] rfl rfl (by kernel_rfl) (fun _ _ _ h => h) (Or.inl ⟨by rfl, ?_⟩) hHeld ?_ ?_
      rotate_left
      ·intro w' hS_
       try dsimp only at hS_
       go_simp
       try with_reducible rfl
      rotate_left
      ·simp only [Act.put, Y14, Y15, Y16]
       rfl
      refine one_ (i := 3) (N := none) #[true, true, true, true, false, false] rfl rfl (by kernel_rfl) (by decide) (fun K hK => ?_)
      go_simp
      refine hK.out _ _ (drew_cell ((blk_cell ((set5_far W2 w.heap.size wr.heap.size HNE.out (.int .i64 0) (.string ⟨#[]⟩) (.int .i64 0) (.int .i64 0) (.slice none 0 0)).trans TB.out) 3).trans rfl)) (fun hHeld => ?_)
      clear hK K
      refine one_ (i := 4) (N := some 3) #[true, true, true, true, true, false] rfl rfl (by kernel_rfl) (by decide) (fun K hK => ?_)
      go_simp
      refine hK.out _ _ hHeld (fun hHeld => ?_)
      clear hK K
      refine one_ (i := 5) (N := some 4) #[true, true, true, true, true, true] rfl rfl (by kernel_rfl) (by decide) (fun K hK => ?_)
      go_simp
      refine hK.out _ _ hHeld (fun hHeld => ?_)
      clear hK K
      refine done_ (by kernel_rfl) ?_
      go_wp2
      rw [hV.out]
      have k1 := drew_blk (box_put5 (V := W2) BX2.out (.int .i64 0) (.string ⟨#[]⟩) (.int .i64 0) (.int .i64 0) (.slice none 0 0))
      have k2 := below_drew1 (set5_below (g := w.heap.size) (below_step HW.out KB2.out) (Nat.le_refl _) (.int .i64 0) (.string ⟨#[]⟩) (.int .i64 0) (.int .i64 0) (.slice none 0 0))
      refine sexpParse_ret (r := (zN, t.f3, 4)) (v4 := .slice none 0 0) ?_ ?_ ?_ k1 (Kd.R_nil _ _ _ _ _) k2
      ·rfl
      ·rfl
      ·rfl
    ·by_cases hd2 : doesI t = 2 ∧ st.length = 1
     ·have hR : Aside0 (R = .inr (t.f3, 4)) := ⟨by rw [← HP.out, parseL, if_neg hfull, if_neg hd3, if_pos hd2]⟩
      have hV : Aside0 (parseEnd s.size (parseL l [zN]) = (zN, t.f3, 4)) := ⟨by rw [HRE.out, hR.out, parseEnd]⟩
      rw [hd2.1] at HD
      have b2 : (((topN st).f4.length : Int) == 1) = false := beq_eq_false_iff_ne.2 (by have := HM.out; omega)
      have hm0 : m = 0 := by have := HM.out; omega
      clear HP hd3 hfull hd2
      subst hm0
      simp only [Nat.zero_mul, Nat.zero_add] at htop
      clear q0 q1 q2 q3 q4 f0 f1 f2 f3 f4
      go_wp2_with (go_at_call 45; refine (HD.out _).mono ?_; rintro e2 W2 ⟨rfl, hB2⟩; have KB2 := Y0 (below_step (below_alloc (Below.refl wr.heap.size wr) _) hB2); have htop2 := pw_cell_below KB2.out htop; have tb := blk_below (blk_new wr (.cells #[.int .i64 t.f0, .string t.f1, .int .i64 t.f2, .int .i64 t.f3] 29)) hB2; have TB := Y0 tb; have tb0 := (blk_cell tb 0).trans rfl; have tb1 := (blk_cell tb 1).trans rfl; have tb2 := (blk_cell tb 2).trans rfl; have tb3 : W2.cell? ⟨wr.heap.size, 3, none⟩ = some (.int .i64 t.f3) := (blk_cell tb 3).trans rfl; have bx2 := blk_below HBX.out KB2.out; have BX2 := Y0 bx2; have r0 := (blk_cell bx2 0).trans rfl; have r1 := (blk_cell bx2 1).trans rfl; have r2 := (blk_cell bx2 2).trans rfl; have r3 := (blk_cell bx2 3).trans rfl; have r4 := (blk_cell bx2 4).trans rfl; have s0 := blk_frozen bx2 0; have s1 := blk_frozen bx2 1; have s2 := blk_frozen bx2 2; have s3 := blk_frozen bx2 3; have s4 := blk_frozen bx2 4; clear hB2 tb bx2 htop)
      refine start_ (n := 6) (S := fun V => V.cell? ⟨wr.heap.size, 3, none⟩ = some (.int .i64 t.f3)) (ds := []) #[false, false, false, false, false, false] (by kernel_rfl) rfl rfl tb3 (fun hHeld => ?_)
      refine pure_ (i := 0) (N := some 83) (v := ?_) (a' := ?_) #[true, false, false, false, false, false] rfl rfl (by kernel_rfl) (fun _ _ _ h => h) (Or.inl ⟨by rfl, ?_⟩) ?_ ?_
      rotate_left
      ·intro w'
       go_simp
       try with_reducible rfl
      rotate_left
      ·simp only [Act.put, Y14, Y15, Y16]
       rfl
      refine pure_ (i := 1) (N := some 84) (v := ?_) (a' := ?_) #[true, true, false, false, false, false] rfl rfl (by kernel_rfl) (fun _ _ _ h => h) (Or.inl ⟨by rfl, ?_⟩) ?_ ?_
      rotate_left
      ·intro w'
       go_simp
       try with_reducible rfl
      rotate_left
      ·simp only [Act.put, Y14, Y15, Y16]
       rfl
      refine take_ (i := 2) (N := some 85) (v := ?_) (a' := ?_) #[true, true, true, false, false, false] rfl rfl (by kernel_rfl) (fun _ _ _ h => h) (Or.inl ⟨by rfl, ?_⟩) hHeld ?_ ?_
      rotate_left
      ·intro w' hS_
       try dsimp only at hS_
       go_simp
       try with_reducible rfl
      rotate_left
      ·simp only [Act.put, Y14, Y15, Y16]
       rfl
      refine one_ (i := 3) (N := none) #[true, true, true, true, false, false] rfl rfl (by kernel_rfl) (by decide) (fun K hK => ?_)
      go_simp
      refine hK.out _ _ (drew_cell ((blk_cell ((set5_far W2 w.heap.size wr.heap.size HNE.out (.int .i64 0) (.string ⟨#[]⟩) (.int .i64 0) (.int .i64 0) (.slice none 0 0)).trans TB.out) 3).trans rfl)) (fun hHeld => ?_)
      clear hK K
      refine one_ (i := 4) (N := some 3) #[true, true, true, true, true, false] rfl rfl (by kernel_rfl) (by decide) (fun K hK => ?_)
      go_simp
      refine hK.out _ _ hHeld (fun hHeld => ?_)
      clear hK K
      refine one_ (i := 5) (N := some 4) #[true, true, true, true, true, true] rfl rfl (by kernel_rfl) (by decide) (fun K hK => ?_)
      go_simp
      refine hK.out _ _ hHeld (fun hHeld => ?_)
      clear hK K
      refine done_ (by kernel_rfl) ?_
      go_wp2
      rw [hV.out]
      have k1 := drew_blk (box_put5 (V := W2) BX2.out (.int .i64 0) (.string ⟨#[]⟩) (.int .i64 0) (.int .i64 0) (.slice none 0 0))
      have k2 := below_drew1 (set5_below (g := w.heap.size) (below_step HW.out KB2.out) (Nat.le_refl _) (.int .i64 0) (.string ⟨#[]⟩) (.int .i64 0) (.int .i64 0) (.slice none 0 0))
      refine sexpParse_ret (r := (zN, t.f3, 4)) (v4 := .slice none 0 0) ?_ ?_ ?_ k1 (Kd.R_nil _ _ _ _ _) k2
      ·rfl
      ·rfl
      ·rfl
     ·by_cases hd1 : doesI t = 1
      ·by_cases hL : 16 < st.length
       ·have hR : Aside0 (R = .inr (t.f3, 2)) := ⟨by rw [← HP.out, parseL, if_neg hfull, if_neg hd3, if_neg hd2, if_pos (show doesI t = 1 ∧ st.length > 16 from ⟨hd1, hL⟩)]⟩
        have hV : Aside0 (parseEnd s.size (parseL l [zN]) = (zN, t.f3, 2)) := ⟨by rw [HRE.out, hR.out, parseEnd]⟩
        rw [hd1] at HD
        have b1 : (((m : Int) + 1) == 1) = false := beq_eq_false_iff_ne.2 (by have := HM.out; omega)
        have b3 : decide (16 < (m : Int) + 1) = true := decide_eq_true (by have := HM.out; omega)
        have hmb : m ≤ 1000 := by have := HM.out; have := HO.out.2.1; have := HN.out; omega
        clear HP hd3 hfull hd2 hd1 hL
        clear q0 q1 q2 q3 q4 f0 f1 f2 f3 f4
        go_wp2_with (go_at_call 45; refine (HD.out _).mono ?_; rintro e2 W2 ⟨rfl, hB2⟩; have KB2 := Y0 (below_step (below_alloc (Below.refl wr.heap.size wr) _) hB2); have htop2 := pw_cell_below KB2.out htop; have tb := blk_below (blk_new wr (.cells #[.int .i64 t.f0, .string t.f1, .int .i64 t.f2, .int .i64 t.f3] 29)) hB2; have TB := Y0 tb; have tb0 := (blk_cell tb 0).trans rfl; have tb1 := (blk_cell tb 1).trans rfl; have tb2 := (blk_cell tb 2).trans rfl; have tb3 : W2.cell? ⟨wr.heap.size, 3, none⟩ = some (.int .i64 t.f3) := (blk_cell tb 3).trans rfl; have bx2 := blk_below HBX.out KB2.out; have BX2 := Y0 bx2; have r0 := (blk_cell bx2 0).trans rfl; have r1 := (blk_cell bx2 1).trans rfl; have r2 := (blk_cell bx2 2).trans rfl; have r3 := (blk_cell bx2 3).trans rfl; have r4 := (blk_cell bx2 4).trans rfl; have s0 := blk_frozen bx2 0; have s1 := blk_frozen bx2 1; have s2 := blk_frozen bx2 2; have s3 := blk_frozen bx2 3; have s4 := blk_frozen bx2 4; clear hB2 tb bx2 htop)
        refine start_ (n := 6) (S := fun V => V.cell? ⟨wr.heap.size, 3, none⟩ = some (.int .i64 t.f3)) (ds := []) #[false, false, false, false, false, false] (by kernel_rfl) rfl rfl tb3 (fun hHeld => ?_)
        refine pure_ (i := 0) (N := some 94) (v := ?_) (a' := ?_) #[true, false, false, false, false, false] rfl rfl (by kernel_rfl) (fun _ _ _ h => h) (Or.inl ⟨by rfl, ?_⟩) ?_ ?_
        rotate_left
        ·intro w'
         go_simp
         try with_reducible rfl
        rotate_left
        ·simp only [Act.put, Y14, Y15, Y16]
         rfl
        refine pure_ (i := 1) (N := some 95) (v := ?_) (a' := ?_) #[true, true, false, false, false, false] rfl rfl (by kernel_rfl) (fun _ _ _ h => h) (Or.inl ⟨by rfl, ?_⟩) ?_ ?_
        rotate_left
        ·intro w'
         go_simp
         try with_reducible rfl
        rotate_left
        ·simp only [Act.put, Y14, Y15, Y16]
         rfl
        refine take_ (i := 2) (N := some 96) (v := ?_) (a' := ?_) #[true, true, true, false, false, false] rfl rfl (by kernel_rfl) (fun _ _ _ h => h) (Or.inl ⟨by rfl, ?_⟩) hHeld ?_ ?_
        rotate_left
        ·intro w' hS_
         try dsimp only at hS_
         go_simp
         try with_reducible rfl
        rotate_left
        ·simp only [Act.put, Y14, Y15, Y16]
         rfl
        refine one_ (i := 3) (N := none) #[true, true, true, true, false, false] rfl rfl (by kernel_rfl) (by decide) (fun K hK => ?_)
        go_simp
        refine hK.out _ _ (drew_cell ((blk_cell ((set5_far W2 w.heap.size wr.heap.size HNE.out (.int .i64 0) (.string ⟨#[]⟩) (.int .i64 0) (.int .i64 0) (.slice none 0 0)).trans TB.out) 3).trans rfl)) (fun hHeld => ?_)
        clear hK K
        refine one_ (i := 4) (N := some 3) #[true, true, true, true, true, false] rfl rfl (by kernel_rfl) (by decide) (fun K hK => ?_)
        go_simp
        refine hK.out _ _ hHeld (fun hHeld => ?_)
        clear hK K
        refine one_ (i := 5) (N := some 4) #[true, true, true, true, true, true] rfl rfl (by kernel_rfl) (by decide) (fun K hK => ?_)
        go_simp
        refine hK.out _ _ hHeld (fun hHeld => ?_)
        clear hK K
        refine done_ (by kernel_rfl) ?_
        go_wp2
        rw [hV.out]
        have k1 := drew_blk (box_put5 (V := W2) BX2.out (.int .i64 0) (.string ⟨#[]⟩) (.int .i64 0) (.int .i64 0) (.slice none 0 0))
        have k2 := below_drew1 (set5_below (g := w.heap.size) (below_step HW.out KB2.out) (Nat.le_refl _) (.int .i64 0) (.string ⟨#[]⟩) (.int .i64 0) (.int .i64 0) (.slice none 0 0))
        refine sexpParse_ret (r := (zN, t.f3, 2)) (v4 := .slice none 0 0) ?_ ?_ ?_ k1 (Kd.R_nil _ _ _ _ _) k2
        ·rfl
        ·rfl
        ·rfl
       ·have HP2 : Aside0 (parseL (l.drop (i + 1)) (st ++ [⟨4, ⟨#[]⟩, 0, t.f3, []⟩]) = R) := ⟨by rw [← HP.out]; symm; rw [parseL, if_neg hfull, if_neg hd3, if_neg hd2, if_neg (show ¬ (doesI t = 1 ∧ st.length > 16) from fun h => hL h.2), if_pos hd1]⟩
        have HO2 : Aside0 (stOk (i + 1) (st ++ [⟨4, ⟨#[]⟩, 0, t.f3, []⟩])) := ⟨stOk_push i st _ HO.out rfl⟩
        have HLEN : Aside0 ((st.length + 1) * 64 ≤ 140737488355328) := ⟨by have := HO.out.2.1; have := HN.out; omega⟩
        rw [hd1] at HD
        have hmb : m ≤ 1000 := by have := HM.out; have := HO.out.2.1; have := HN.out; omega
        clear HP
        have hgu : ((((m : Int) + 1) == 1) = true ∧ (((topN st).f4.length : Int) == 1) = false) ∨ (((m : Int) + 1) == 1) = false := by
         by_cases hm0 : m = 0
         ·exact .inl ⟨beq_iff_eq.2 (by omega), beq_eq_false_iff_ne.2 (by have := HM.out; omega)⟩
         ·exact .inr (beq_eq_false_iff_ne.2 (by omega))
        have b3 : decide (16 < (m : Int) + 1) = false := decide_eq_false (by have := HM.out; omega)
        clear hfull hd3 hd2 hd1 hL
        rcases hgu with ⟨b1, b2⟩ | b1
        all_goals
         clear q0 q1 q2 q3 q4 f0 f1 f2 f3 f4
         go_wp2_with (first | (go_at_call 45; refine (HD.out _).mono ?_; rintro e2 W2 ⟨rfl, hB2⟩; have KB2 := Y0 (below_step (below_alloc (Below.refl wr.heap.size wr) _) hB2); have htop2 := pw_cell_below KB2.out htop; have tb := blk_below (blk_new wr (.cells #[.int .i64 t.f0, .string t.f1, .int .i64 t.f2, .int .i64 t.f3] 29)) hB2; have TB := Y0 tb; have tb0 := (blk_cell tb 0).trans rfl; have tb1 := (blk_cell tb 1).trans rfl; have tb2 := (blk_cell tb 2).trans rfl; have tb3 : W2.cell? ⟨wr.heap.size, 3, none⟩ = some (.int .i64 t.f3) := (blk_cell tb 3).trans rfl; have bx2 := blk_below HBX.out KB2.out; have BX2 := Y0 bx2; have r0 := (blk_cell bx2 0).trans rfl; have r1 := (blk_cell bx2 1).trans rfl; have r2 := (blk_cell bx2 2).trans rfl; have r3 := (blk_cell bx2 3).trans rfl; have r4 := (blk_cell bx2 4).trans rfl; have s0 := blk_frozen bx2 0; have s1 := blk_frozen bx2 1; have s2 := blk_frozen bx2 2; have s3 := blk_frozen bx2 3; have s4 := blk_frozen bx2 4; have HS2 : Aside0 (Kd.S k39 39 W2 W1.heap.size (fun k => True ∧ ¬ False) (.slice (some ⟨g, 0, none⟩) st.length cap) st) := ⟨Kd.S_mono (Kd.S_below HS.out KB2.out) (fun _ _ => ⟨trivial, fun h => h⟩)⟩; rw [HM.out] at HS2; have HBW := Y0 (below_step HBl.out KB2.out); have HSZ := Y0 (Nat.le_trans HBl.out.size KB2.out.size); clear hB2 tb bx2 htop r0 r1 r2 r3 r4 s0 s1 s2 s3 s4) | ((with_reducible refine gate_builtin (b := .append) (xs := #[.tmp 100, .tmp 104]) rfl ?_); at_builtin; refine Kd.S_append k39 (w0 := W1) W1.heap.size rfl (.tmp 100) (.tmp 104) 37 39 (.agg #[(.int .i64 0), (.string ⟨#[]⟩), (.int .i64 0), (.int .i64 0), (.slice none 0 0)]) 64 rfl Tryd.underlying37 info39 rfl (by decide) (by decide) _ st ⟨4, ⟨#[]⟩, 0, t.f3, []⟩ [.int .i64 4, .string ⟨#[]⟩, .int .i64 0, .int .i64 t.f3, .slice none 0 0] (fun _ => True) (fun _ => False) rfl rfl (k39_mkM _ _ _ _ (Kd.R_nil _ _ _ _ _)) (fun _ hk => hk.elim) (fun _ _ => trivial) HS2.out HBW.out HSZ.out HLEN.out ?_; intro v1 w1 hS1 hB1 hg1 hat; obtain ⟨g1, cap1, rfl, _⟩ := Kd.R_form (Kd.S_R hS1) (by simp); have HS1 := Y0 hS1; have HB1 := Y0 hB1; clear hS1 hB1 hg1 hat))
         go_roundg (l.length - (i + 1))
         case measure => have := HN.out; omega
         case rel => exact ⟨i + 1, _, g1, cap1, by go_num, by simp, HP2, HS1, HB1, ⟨by omega⟩, HO2⟩
      ·by_cases hd0 : doesI t = 2
       ·have hSt : stOk (i + 1) (addTop (st.take (st.length - 1)) (topN st)) := stOk_pop i st _ HO.out (by have := HO.out.1; have h9 : ¬ st.length = 1 := fun h => hd2 ⟨hd0, h⟩; omega)
        have hP2 : parseL (l.drop (i + 1)) (addTop (st.take (st.length - 1)) (topN st)) = R := by rw [← HP.out]; symm; rw [parseL, if_neg hfull, if_neg hd3, if_neg hd2, if_neg (show ¬ (doesI t = 1 ∧ st.length > 16) from fun h => hd1 h.1), if_neg hd1, if_pos hd0]
        obtain ⟨q, rfl⟩ : ∃ q, m = q + 1 := ⟨m - 1, by have := HM.out; have h9 : ¬ st.length = 1 := fun h => hd2 ⟨hd0, h⟩; omega⟩
        have hqb : q ≤ 1000 := by have := HM.out; have := HO.out.2.1; have := HN.out; omega
        have hlen : ((topN (st.take (st.length - 1))).f4.length + 1) * 64 ≤ 140737488355328 := by have h8 : topN (st.take (st.length - 1)) ∈ st := List.mem_of_mem_take (topN_mem _ (by rw [List.length_take]; have := HM.out; omega)); have := HO.out.2.2 _ h8; have := HN.out; omega
        rw [hd0] at HD
        have hsl : st.length - 1 = q + 1 := by have := HM.out; omega
        rw [hsl] at hSt hP2 hlen
        obtain ⟨sq, hsq⟩ : ∃ sq, st.take (q + 1) = sq := ⟨_, rfl⟩
        obtain ⟨tx, htx⟩ : ∃ tx, topN st = tx := ⟨_, rfl⟩
        have hMQ : sq.length = q + 1 := by rw [← hsq, List.length_take]; have := HM.out; omega
        rw [hsq, htx] at hSt hP2
        rw [hsq] at hlen
        have HO2 := Y0 hSt
        have HP2 := Y0 hP2
        have HLEN := Y0 hlen
        have HSQ := Y0 hsq
        have HTX := Y0 htx
        have HMQ := Y0 hMQ
        have b1 : (((q : Int) + 1 + 1) == 1) = false := beq_eq_false_iff_ne.2 (by omega)
        clear HP hfull hd3 hd2 hd1 hd0 hSt hP2 hlen hsl hsq htx hMQ
        clear q0 q1 q2 q3 q4 f0 f1 f2 f3 f4
        have hqc : (q : Int) + 1 ≤ (cap : Int) := by have := row_cap (Kd.S_R HS.out); have := HM.out; omega
        go_wp2_with (go_at_call 45; refine (HD.out _).mono ?_; rintro e2 W2 ⟨rfl, hB2⟩; have KB2 := Y0 (below_step (below_alloc (Below.refl wr.heap.size wr) _) hB2); have tb := blk_below (blk_new wr (.cells #[.int .i64 t.f0, .string t.f1, .int .i64 t.f2, .int .i64 t.f3] 29)) hB2; have TB := Y0 tb; have tb0 := (blk_cell tb 0).trans rfl; have tb1 := (blk_cell tb 1).trans rfl; have tb2 := (blk_cell tb 2).trans rfl; have tb3 : W2.cell? ⟨wr.heap.size, 3, none⟩ = some (.int .i64 t.f3) := (blk_cell tb 3).trans rfl; have bx2 := blk_below HBX.out KB2.out; have BX2 := Y0 bx2; have r0 := (blk_cell bx2 0).trans rfl; have r1 := (blk_cell bx2 1).trans rfl; have r2 := (blk_cell bx2 2).trans rfl; have r3 := (blk_cell bx2 3).trans rfl; have r4 := (blk_cell bx2 4).trans rfl; have s0 := blk_frozen bx2 0; have s1 := blk_frozen bx2 1; have s2 := blk_frozen bx2 2; have s3 := blk_frozen bx2 3; have s4 := blk_frozen bx2 4; have hSd := Kd.S_below HS.out KB2.out; rw [HM.out] at hSd; obtain ⟨okp, okw, okx, A4, A5, c4, c5, hnew, hR4, hcell, hM5, hc5, hpx, hwx, hH⟩ := pop_open hSd HM.out rfl; rw [HSQ.out] at hR4 hcell hH; rw [HTX.out] at hM5 hc5; have g0 : W2.cell? ⟨g, (q + 1) * 5, none⟩ = _ := hc5 0 _ rfl; have g1 := hc5 1 _ rfl; have g2 := hc5 2 _ rfl; have g3 := hc5 3 _ rfl; have g4 := hc5 4 _ rfl; have HNEW := Y0 hnew; have HR4 := Y0 hR4; have HCELL := Y0 hcell; have HM5 := Y0 hM5; have HPX := Y0 hpx; have HWX := Y0 hwx; have HHO := Y0 hH; have HBW := Y0 (below_step HBl.out KB2.out); have HSZ := Y0 (below_size HBW.out); clear hB2 tb bx2 htop r0 r1 r2 r3 r4 s0 s1 s2 s3 s4 hSd hnew hR4 hcell hM5 hc5 hpx hwx hH)
        have KB3 : Aside0 (Below W2.heap.size W2 (W2.alloc (.cells #[.int .i64 tx.f0, .string tx.f1, .int .i64 tx.f2, .int .i64 tx.f3, .slice A5 tx.f4.length c5] 39 (0, 0))).drew) := ⟨below_drew1 (below_alloc (Below.refl _ _) _)⟩
        have tbx := blk_new W2 (.cells #[.int .i64 tx.f0, .string tx.f1, .int .i64 tx.f2, .int .i64 tx.f3, .slice A5 tx.f4.length c5] 39 (0, 0))
        generalize W2.alloc (.cells #[.int .i64 tx.f0, .string tx.f1, .int .i64 tx.f2, .int .i64 tx.f3, .slice A5 tx.f4.length c5] 39 (0, 0)) = W3 at *
        have KR4 := Y0 (Kd.R_below HR4.out KB3.out)
        have KM5 := Y0 (Kd.M_below HM5.out KB3.out)
        have KHO := Y0 (Kd.H_below HHO.out KB3.out)
        have KNEW : Aside0 (∀ k, W3.drew.heap.size ≤ k → okw k) := ⟨fun k hk => HNEW.out k (Nat.le_trans KB3.out.size hk)⟩
        have KBW := Y0 (below_step HBW.out KB3.out)
        have KSZ := Y0 (below_size KBW.out)
        have KCELL := Y0 (pw_cell_below KB3.out HCELL.out)
        have KX := Y0 (And.intro ((blk_cell tbx 0).trans rfl : _ = some (Value.int .i64 tx.f0)) (And.intro ((blk_cell tbx 1).trans rfl : _ = some (Value.string tx.f1)) (And.intro ((blk_cell tbx 2).trans rfl : _ = some (Value.int .i64 tx.f2)) (And.intro ((blk_cell tbx 3).trans rfl : _ = some (Value.int .i64 tx.f3)) ((blk_cell tbx 4).trans rfl : _ = some (Value.slice A5 tx.f4.length c5))))))
        clear HR4 HM5 HHO HNEW HBW HSZ HCELL tbx g0 g1 g2 g3 g4
        refine start_ (n := 13) (S := fun V => V.cell? ⟨W2.heap.size, 0, none⟩ = some (.int .i64 tx.f0) ∧ V.cell? ⟨W2.heap.size, 1, none⟩ = some (.string tx.f1) ∧ V.cell? ⟨W2.heap.size, 2, none⟩ = some (.int .i64 tx.f2) ∧ V.cell? ⟨W2.heap.size, 3, none⟩ = some (.int .i64 tx.f3) ∧ V.cell? ⟨W2.heap.size, 4, none⟩ = some (.slice A5 tx.f4.length c5) ∧ V.cell? ⟨g, q * 5 + 4, none⟩ = some (.slice A4 (topN sq).f4.length c4)) (ds := [7, 9, 12]) #[false, false, false, false, false, false, false, false, false, false, false, false, false] (by kernel_rfl) rfl rfl ⟨KX.out.1, KX.out.2.1, KX.out.2.2.1, KX.out.2.2.2.1, KX.out.2.2.2.2, KCELL.out⟩ (fun hHeld => ?_)
        refine pure_ (i := 0) (N := some 122) (v := ?_) (a' := ?_) (sqB 13 1) rfl rfl (by kernel_rfl) (fun _ _ _ h => h) (Or.inl ⟨by rfl, ?_⟩) ?_ ?_
        rotate_left
        ·intro w'
         go_simp
         try with_reducible rfl
        rotate_left
        ·simp only [Act.put, Y14, Y15, Y16]
         rfl
        refine pure_ (i := 1) (N := some 123) (v := ?_) (a' := ?_) (sqB 13 3) rfl rfl (by kernel_rfl) (fun _ _ _ h => h) (Or.inl ⟨by rfl, ?_⟩) ?_ ?_
        rotate_left
        ·intro w'
         go_simp
         try with_reducible rfl
        rotate_left
        ·simp only [Act.put, Y14, Y15, Y16]
         rfl
        refine pure_ (i := 2) (N := some 124) (v := ?_) (a' := ?_) (sqB 13 7) rfl rfl (by kernel_rfl) (fun _ _ _ h => h) (Or.inl ⟨by rfl, ?_⟩) ?_ ?_
        rotate_left
        ·intro w'
         go_simp
         try with_reducible rfl
        rotate_left
        ·simp only [Act.put, Y14, Y15, Y16]
         rfl
        refine take_ (i := 3) (N := some 125) (v := ?_) (a' := ?_) (sqB 13 15) rfl rfl (by kernel_rfl) (fun _ _ _ h => h) (Or.inl ⟨by rfl, ?_⟩) hHeld ?_ ?_
        rotate_left
        ·intro w' hS_
         obtain ⟨e0_, e1_, e2_, e3_, e4_, e5_⟩ := hS_
         go_simp
         try with_reducible rfl
        rotate_left
        ·simp only [Act.put, Y14, Y15, Y16]
         rfl
        refine take_ (i := 4) (N := some 126) (v := ?_) (a' := ?_) (sqB 13 31) rfl rfl (by kernel_rfl) (fun _ _ _ h => h) (Or.inl ⟨by rfl, ?_⟩) hHeld ?_ ?_
        rotate_left
        ·intro w' hS_
         obtain ⟨e0_, e1_, e2_, e3_, e4_, e5_⟩ := hS_
         go_simp
         try with_reducible rfl
        rotate_left
        ·simp only [Act.put, Y14, Y15, Y16]
         rfl
        refine pure_ (i := 5) (N := some 127) (v := ?_) (a' := ?_) (sqB 13 63) rfl rfl (by kernel_rfl) (fun _ _ _ h => h) (Or.inl ⟨by rfl, ?_⟩) ?_ ?_
        rotate_left
        ·intro w'
         go_simp
         try with_reducible rfl
        rotate_left
        ·simp only [Act.put, Y14, Y15, Y16]
         rfl
        refine one_ (i := 6) (N := some 128) (sqB 13 127) rfl rfl (by kernel_rfl) (by decide) (fun K hK => ?_)
        go_simp
        refine hK.out _ _ ?hS (fun hHeld => ?_)
        case hS => exact ⟨pw_cell_below (below_alloc (Below.refl _ _) _) hHeld.1, pw_cell_below (below_alloc (Below.refl _ _) _) hHeld.2.1, pw_cell_below (below_alloc (Below.refl _ _) _) hHeld.2.2.1, pw_cell_below (below_alloc (Below.refl _ _) _) hHeld.2.2.2.1, pw_cell_below (below_alloc (Below.refl _ _) _) hHeld.2.2.2.2.1, pw_cell_below (below_alloc (Below.refl _ _) _) hHeld.2.2.2.2.2⟩
        clear hK K
        refine last_ (i := 7) (N := some 129) (sqB 13 255) rfl rfl (by kernel_rfl) (by decide) (fun K hK => ?_)
        refine Kd.R_append_step k39 (w0 := W1) W1.heap.size (by rfl) (.tmp 125) (.tmp 128) 37 39 (.agg #[(.int .i64 0), (.string ⟨#[]⟩), (.int .i64 0), (.int .i64 0), (.slice none 0 0)]) 64 rfl Tryd.underlying37 info39 rfl (by decide) (by decide) _ (topN sq).f4 zN [.int .i64 0, .string ⟨#[]⟩, .int .i64 0, .int .i64 0, .slice none 0 0] okw (fun _ => False) rfl rfl (zN_M _ _ _) (fun _ hk => hk.elim) KNEW.out KR4.out KBW.out KSZ.out HLEN.out ?_
        intro v1 w1 hR1 hB1 hg1 hat
        obtain ⟨h1, c1, he, hb1, hl1, _⟩ := Kd.R_form hR1 (by simp)
        simp only [List.length_append, List.length_cons, List.length_nil, Nat.zero_add] at he
        subst he
        have hH1 := Kd.H_grown KHO.out hg1 (fun k hk => HWX.out k (KR4.out.1 k hk))
        obtain ⟨⟨curg, hcg, hfg⟩, hng⟩ := hole_row hH1
        obtain ⟨curh, hch, hfh⟩ := row_at hR1
        have hne : h1 ≠ g := fun he => hng (he ▸ HWX.out h1 (hR1.1 h1 (by simp [Value.ownBlock])))
        have HM1 := Y0 (Kd.M_step KM5.out (fun k hk hlt => hg1.block k hlt (fun he => (HPX.out k hk).2.2 (KR4.out.1 k he.symm))))
        have HDX : Aside0 (∀ k, okp k → okx k ∧ k ≠ h1) := ⟨fun k hk => ⟨(HPX.out k hk).1, fun he => (HPX.out k hk).2.2 (he ▸ hR1.1 h1 (by simp [Value.ownBlock]))⟩⟩
        have HR1 := Y0 hR1
        have HH1 := Y0 hH1
        have HB1 := Y0 hB1
        have HG := Y0 (And.intro hcg hfg)
        have HC := Y0 (And.intro hch hfh)
        have HNEG := Y0 hne
        clear hR1 hH1 hB1 hg1 hat hcg hfg hch hfh hne hng
        refine hK.out _ _ ?_
        clear hK K
        refine norm_ (a' := ?_) ?_ ?_
        rotate_left
        ·show Act.put _ (some 129) _ = _
         simp only [Act.put, Y14, Y15, Y16]
         rfl
        have hlt1 : ((topN sq).f4.length : Int) < ((topN sq).f4.length : Int) + 1 := Int.lt_succ _
        refine pure_ (i := 8) (N := some 130) (v := ?_) (a' := ?_) (sqB 13 511) rfl rfl (by kernel_rfl) (fun _ _ _ h => h) (Or.inl ⟨by rfl, ?_⟩) ?_ ?_
        rotate_left
        ·intro w'
         go_simp
         try with_reducible rfl
        rotate_left
        ·simp only [Act.put, Y14, Y15, Y16]
         rfl
        refine pure_ (i := 10) (N := some 131) (v := ?_) (a' := ?_) (sqB 13 1535) rfl rfl (by kernel_rfl) (fun _ _ _ h => h) (Or.inl ⟨by rfl, ?_⟩) ?_ ?_
        rotate_left
        ·intro w'
         go_simp
         try with_reducible rfl
        rotate_left
        ·simp only [Act.put, Y14, Y15, Y16]
         rfl
        refine pure_ (i := 11) (N := some 132) (v := ?_) (a' := ?_) (sqB 13 3583) rfl rfl (by kernel_rfl) (fun _ _ _ h => h) (Or.inl ⟨by rfl, ?_⟩) ?_ ?_
        rotate_left
        ·intro w'
         go_simp
         try with_reducible rfl
        rotate_left
        ·simp only [Act.put, Y14, Y15, Y16]
         rfl
        have HFIN : ∀ V, V = ((w1.setCells h1 ((topN sq).f4.length * 5) [.int .i64 tx.f0, .string tx.f1, .int .i64 tx.f2, .int .i64 tx.f3, .slice A5 tx.f4.length c5]).setCells g (q * 5 + 4) [.slice (some ⟨h1, 0, none⟩) ((topN sq).f4.length + 1) c1]) → Aside0 (StS V W1.heap.size g cap (addTop sq tx)) ∧ Aside0 (Below W1.heap.size W1 V) := by
         rintro V rfl
         have hS := top_put (m := q) HH1.out (Kd.R_mono HR1.out HWX.out) HM1.out rfl HDX.out HMQ.out rfl
         refine ⟨⟨?_⟩, ⟨cells_below (Kd.S_base HS.out g (by simp [Value.ownBlock])) _ _ (cells_below hb1 _ _ HB1.out)⟩⟩
         show Kd.S k39 39 _ _ _ (.slice (some ⟨g, 0, none⟩) (addTop sq tx).length cap) _
         rw [addTop_len, HMQ.out]
         exact hS
        refine wpAnyLast_ready (rs := [9, 12]) (by kernel_rfl) (by decide) (AllReadyL.cons_last (i := 9) rfl (by decide) (fun K hK => ?_) (AllReadyL.cons_last (i := 12) rfl (by decide) (fun K hK => ?_) AllReadyL.nil))
        ·refine store_row (by rfl) rfl 39 (.tmp 130) (.tmp 126) rfl (g := h1) (seg := [.int .i64 tx.f0, .string tx.f1, .int .i64 tx.f2, .int .i64 tx.f3, .slice A5 tx.f4.length c5]) rfl rfl rfl (by kernel_rfl) HC.out.1 (by have := HC.out.2; have h5 : ((topN sq).f4.length + 1) * 5 ≤ curh.size := this; show (topN sq).f4.length * 5 + 5 ≤ curh.size; omega) (by simp [Value.oneCell']) ?_
         refine hK.out _ _ ?_
         clear hK K
         refine last_ (i := 12) (N := none) (sqB 13 8191) rfl rfl (by kernel_rfl) (by decide) (fun K hK => ?_)
         refine store_row (by rfl) rfl 37 (.tmp 132) (.tmp 129) rfl (g := g) (seg := [.slice (some ⟨h1, 0, none⟩) ((topN sq).f4.length + 1) c1]) rfl rfl rfl (by kernel_rfl) ((setCells_far _ _ g (Ne.symm HNEG.out)).trans HG.out.1) (by have := HG.out.2; have h5 : (q + 1) * 5 ≤ curg.size := this; show q * 5 + 4 + 1 ≤ curg.size; omega) (by simp [Value.oneCell']) ?_
         refine hK.out _ _ ?_
         clear hK K
         refine done_ (by kernel_rfl) ?_
         obtain ⟨hS9, hB9⟩ := HFIN _ (rfl)
         clear HFIN
         go_wp2
         go_roundg (l.length - (i + 1))
         case measure => have := HN.out; omega
         case rel => exact ⟨i + 1, _, g, cap, by go_num, by rw [addTop_len, HMQ.out], HP2, hS9, hB9, ⟨by omega⟩, HO2⟩
        ·refine store_row (by rfl) rfl 37 (.tmp 132) (.tmp 129) rfl (g := g) (seg := [.slice (some ⟨h1, 0, none⟩) ((topN sq).f4.length + 1) c1]) rfl rfl rfl (by kernel_rfl) HG.out.1 (by have := HG.out.2; have h5 : (q + 1) * 5 ≤ curg.size := this; show q * 5 + 4 + 1 ≤ curg.size; omega) (by simp [Value.oneCell']) ?_
         refine hK.out _ _ ?_
         clear hK K
         refine last_ (i := 9) (N := none) (sqB 13 8191) rfl rfl (by kernel_rfl) (by decide) (fun K hK => ?_)
         refine store_row (by rfl) rfl 39 (.tmp 130) (.tmp 126) rfl (g := h1) (seg := [.int .i64 tx.f0, .string tx.f1, .int .i64 tx.f2, .int .i64 tx.f3, .slice A5 tx.f4.length c5]) rfl rfl rfl (by kernel_rfl) ((setCells_far _ _ h1 HNEG.out).trans HC.out.1) (by have := HC.out.2; have h5 : ((topN sq).f4.length + 1) * 5 ≤ curh.size := this; show (topN sq).f4.length * 5 + 5 ≤ curh.size; omega) (by simp [Value.oneCell']) ?_
         refine hK.out _ _ ?_
         clear hK K
         refine done_ (by kernel_rfl) ?_
         obtain ⟨hS9, hB9⟩ := HFIN _ ((setCells_setCell (p := ⟨g, q * 5 + 4, none⟩) HNEG.out _ _ _ _).symm)
         clear HFIN
         go_wp2
         go_roundg (l.length - (i + 1))
         case measure => have := HN.out; omega
         case rel => exact ⟨i + 1, _, g, cap, by go_num, by rw [addTop_len, HMQ.out], HP2, hS9, hB9, ⟨by omega⟩, HO2⟩
       ·have hz : doesI t = 0 := by have := doesI_cases t; omega
        have HP2 : Aside0 (parseL (l.drop (i + 1)) (addTop st ⟨t.f0, t.f1, t.f2, t.f3, []⟩) = R) := ⟨by rw [← HP.out]; symm; rw [parseL, if_neg hfull, if_neg hd3, if_neg hd2, if_neg (show ¬ (doesI t = 1 ∧ st.length > 16) from fun h => hd1 h.1), if_neg hd1, if_neg hd0]⟩
        have HO2 : Aside0 (stOk (i + 1) (addTop st ⟨t.f0, t.f1, t.f2, t.f3, []⟩)) := ⟨stOk_add i st _ HO.out⟩
        have HLEN : Aside0 (((topN st).f4.length + 1) * 64 ≤ 140737488355328) := ⟨by have := HO.out.2.2 _ (topN_mem st HO.out.1); have := HN.out; omega⟩
        rw [hz] at HD
        have hmb : m ≤ 1000 := by have := HM.out; have := HO.out.2.1; have := HN.out; omega
        clear HP
        have hgu : ((((m : Int) + 1) == 1) = true ∧ (((topN st).f4.length : Int) == 1) = false) ∨ (((m : Int) + 1) == 1) = false := by
         by_cases hm0 : m = 0
         ·exact .inl ⟨beq_iff_eq.2 (by omega), beq_eq_false_iff_ne.2 (by have := HM.out; omega)⟩
         ·exact .inr (beq_eq_false_iff_ne.2 (by omega))
        clear hfull hd3 hd2 hd1 hd0 hz
        rcases hgu with ⟨b1, b2⟩ | b1
        all_goals
         clear q0 q1 q2 q3 q4 f0 f1 f2 f3 f4
         go_wp2_with (go_at_call 45; refine (HD.out _).mono ?_; rintro e2 W2 ⟨rfl, hB2⟩; have KB2 := Y0 (below_step (below_alloc (Below.refl wr.heap.size wr) _) hB2); have htop2 := pw_cell_below KB2.out htop; have tb := blk_below (blk_new wr (.cells #[.int .i64 t.f0, .string t.f1, .int .i64 t.f2, .int .i64 t.f3] 29)) hB2; have TB := Y0 tb; have tb0 := (blk_cell tb 0).trans rfl; have tb1 := (blk_cell tb 1).trans rfl; have tb2 := (blk_cell tb 2).trans rfl; have tb3 : W2.cell? ⟨wr.heap.size, 3, none⟩ = some (.int .i64 t.f3) := (blk_cell tb 3).trans rfl; have bx2 := blk_below HBX.out KB2.out; have BX2 := Y0 bx2; have r0 := (blk_cell bx2 0).trans rfl; have r1 := (blk_cell bx2 1).trans rfl; have r2 := (blk_cell bx2 2).trans rfl; have r3 := (blk_cell bx2 3).trans rfl; have r4 := (blk_cell bx2 4).trans rfl; have s0 := blk_frozen bx2 0; have s1 := blk_frozen bx2 1; have s2 := blk_frozen bx2 2; have s3 := blk_frozen bx2 3; have s4 := blk_frozen bx2 4; have hSd := Kd.S_below HS.out (below_drew1 KB2.out); rw [HM.out] at hSd; obtain ⟨okw, A5, c5, hnew, hR4, hcell, hH⟩ := top_open (m := m) hSd HM.out rfl; have HNEW := Y0 hnew; have HR4 := Y0 hR4; have HCELL : W2.drew.cell? ⟨g, m * 5 + 4, none⟩ = some (.slice A5 (topN st).f4.length c5) := hcell; have HHO := Y0 hH; have HBW := Y0 (below_drew1 (below_step HBl.out KB2.out)); have HSZ := Y0 (below_size HBW.out); have HHCELL := Y0 HCELL; clear hB2 tb bx2 htop r0 r1 r2 r3 r4 s0 s1 s2 s3 s4 hSd hnew hR4 hH hcell)
         refine start_ (n := 21) (S := fun V => V.cell? ⟨wr.heap.size, 0, none⟩ = some (.int .i64 t.f0) ∧ V.cell? ⟨wr.heap.size, 1, none⟩ = some (.string t.f1) ∧ V.cell? ⟨wr.heap.size, 2, none⟩ = some (.int .i64 t.f2) ∧ V.cell? ⟨wr.heap.size, 3, none⟩ = some (.int .i64 t.f3) ∧ V.cell? ⟨g, m * 5 + 4, none⟩ = some (.slice A5 (topN st).f4.length c5)) (ds := [15, 17, 20]) #[false, false, false, false, false, false, false, false, false, false, false, false, false, false, false, false, false, false, false, false, false] (by kernel_rfl) rfl rfl ⟨tb0, tb1, tb2, tb3, HHCELL.out⟩ (fun hHeld => ?_)
         refine pure_ (i := 0) (N := some 53) (v := ?_) (a' := ?_) (sqB 21 1) rfl rfl (by kernel_rfl) (fun _ _ _ h => h) (Or.inl ⟨by rfl, ?_⟩) ?_ ?_
         rotate_left
         ·intro w'
          go_simp
          try with_reducible rfl
         rotate_left
         ·simp only [Act.put, Y14, Y15, Y16]
          rfl
         refine pure_ (i := 1) (N := some 54) (v := ?_) (a' := ?_) (sqB 21 3) rfl rfl (by kernel_rfl) (fun _ _ _ h => h) (Or.inl ⟨by rfl, ?_⟩) ?_ ?_
         rotate_left
         ·intro w'
          go_simp
          try with_reducible rfl
         rotate_left
         ·simp only [Act.put, Y14, Y15, Y16]
          rfl
         refine pure_ (i := 2) (N := some 55) (v := ?_) (a' := ?_) (sqB 21 7) rfl rfl (by kernel_rfl) (fun _ _ _ h => h) (Or.inl ⟨by rfl, ?_⟩) ?_ ?_
         rotate_left
         ·intro w'
          go_simp
          try with_reducible rfl
         rotate_left
         ·simp only [Act.put, Y14, Y15, Y16]
          rfl
         refine take_ (i := 3) (N := some 56) (v := ?_) (a' := ?_) (sqB 21 15) rfl rfl (by kernel_rfl) (fun _ _ _ h => h) (Or.inl ⟨by rfl, ?_⟩) hHeld ?_ ?_
         rotate_left
         ·intro w' hS_
          obtain ⟨e0_, e1_, e2_, e3_, e4_⟩ := hS_
          go_simp
          try with_reducible rfl
         rotate_left
         ·simp only [Act.put, Y14, Y15, Y16]
          rfl
         refine pure_ (i := 4) (N := some 57) (v := ?_) (a' := ?_) (sqB 21 31) rfl rfl (by kernel_rfl) (fun _ _ _ h => h) (Or.inl ⟨by rfl, ?_⟩) ?_ ?_
         rotate_left
         ·intro w'
          go_simp
          try with_reducible rfl
         rotate_left
         ·simp only [Act.put, Y14, Y15, Y16]
          rfl
         refine take_ (i := 5) (N := some 58) (v := ?_) (a' := ?_) (sqB 21 63) rfl rfl (by kernel_rfl) (fun _ _ _ h => h) (Or.inl ⟨by rfl, ?_⟩) hHeld ?_ ?_
         rotate_left
         ·intro w' hS_
          obtain ⟨e0_, e1_, e2_, e3_, e4_⟩ := hS_
          go_simp
          try with_reducible rfl
         rotate_left
         ·simp only [Act.put, Y14, Y15, Y16]
          rfl
         refine pure_ (i := 6) (N := some 59) (v := ?_) (a' := ?_) (sqB 21 127) rfl rfl (by kernel_rfl) (fun _ _ _ h => h) (Or.inl ⟨by rfl, ?_⟩) ?_ ?_
         rotate_left
         ·intro w'
          go_simp
          try with_reducible rfl
         rotate_left
         ·simp only [Act.put, Y14, Y15, Y16]
          rfl
         refine take_ (i := 7) (N := some 60) (v := ?_) (a' := ?_) (sqB 21 255) rfl rfl (by kernel_rfl) (fun _ _ _ h => h) (Or.inl ⟨by rfl, ?_⟩) hHeld ?_ ?_
         rotate_left
         ·intro w' hS_
          obtain ⟨e0_, e1_, e2_, e3_, e4_⟩ := hS_
          go_simp
          try with_reducible rfl
         rotate_left
         ·simp only [Act.put, Y14, Y15, Y16]
          rfl
         refine pure_ (i := 8) (N := some 61) (v := ?_) (a' := ?_) (sqB 21 511) rfl rfl (by kernel_rfl) (fun _ _ _ h => h) (Or.inl ⟨by rfl, ?_⟩) ?_ ?_
         rotate_left
         ·intro w'
          go_simp
          try with_reducible rfl
         rotate_left
         ·simp only [Act.put, Y14, Y15, Y16]
          rfl
         refine take_ (i := 9) (N := some 62) (v := ?_) (a' := ?_) (sqB 21 1023) rfl rfl (by kernel_rfl) (fun _ _ _ h => h) (Or.inl ⟨by rfl, ?_⟩) hHeld ?_ ?_
         rotate_left
         ·intro w' hS_
          obtain ⟨e0_, e1_, e2_, e3_, e4_⟩ := hS_
          go_simp
          try with_reducible rfl
         rotate_left
         ·simp only [Act.put, Y14, Y15, Y16]
          rfl
         refine pure_ (i := 10) (N := some 63) (v := ?_) (a' := ?_) (sqB 21 2047) rfl rfl (by kernel_rfl) (fun _ _ _ h => h) (Or.inl ⟨by rfl, ?_⟩) ?_ ?_
         rotate_left
         ·intro w'
          go_simp
          try with_reducible rfl
         rotate_left
         ·simp only [Act.put, Y14, Y15, Y16]
          rfl
         refine take_ (i := 11) (N := some 64) (v := ?_) (a' := ?_) (sqB 21 4095) rfl rfl (by kernel_rfl) (fun _ _ _ h => h) (Or.inl ⟨by rfl, ?_⟩) hHeld ?_ ?_
         rotate_left
         ·intro w' hS_
          obtain ⟨e0_, e1_, e2_, e3_, e4_⟩ := hS_
          go_simp
          try with_reducible rfl
         rotate_left
         ·simp only [Act.put, Y14, Y15, Y16]
          rfl
         refine pure_ (i := 12) (N := some 65) (v := ?_) (a' := ?_) (sqB 21 8191) rfl rfl (by kernel_rfl) (fun _ _ _ h => h) (Or.inl ⟨by rfl, ?_⟩) ?_ ?_
         rotate_left
         ·intro w'
          go_simp
          try with_reducible rfl
         rotate_left
         ·simp only [Act.put, Y14, Y15, Y16]
          rfl
         refine pure_ (i := 13) (N := some 66) (v := ?_) (a' := ?_) (sqB 21 16383) rfl rfl (by kernel_rfl) (fun _ _ _ h => h) (Or.inl ⟨by rfl, ?_⟩) ?_ ?_
         rotate_left
         ·intro w'
          go_simp
          try with_reducible rfl
         rotate_left
         ·simp only [Act.put, Y14, Y15, Y16]
          rfl
         refine one_ (i := 14) (N := some 67) (sqB 21 32767) rfl rfl (by kernel_rfl) (by decide) (fun K hK => ?_)
         go_simp
         refine hK.out _ _ ?hS (fun hHeld => ?_)
         case hS => exact ⟨pw_cell_below (below_alloc (Below.refl _ _) _) hHeld.1, pw_cell_below (below_alloc (Below.refl _ _) _) hHeld.2.1, pw_cell_below (below_alloc (Below.refl _ _) _) hHeld.2.2.1, pw_cell_below (below_alloc (Below.refl _ _) _) hHeld.2.2.2.1, pw_cell_below (below_alloc (Below.refl _ _) _) hHeld.2.2.2.2⟩
         clear hK K
         refine last_ (i := 15) (N := some 68) (sqB 21 65535) rfl rfl (by kernel_rfl) (by decide) (fun K hK => ?_)
         refine Kd.R_append_step k39 (w0 := W1) W1.heap.size (by rfl) (.tmp 56) (.tmp 67) 37 39 (.agg #[(.int .i64 0), (.string ⟨#[]⟩), (.int .i64 0), (.int .i64 0), (.slice none 0 0)]) 64 rfl Tryd.underlying37 info39 rfl (by decide) (by decide) _ (topN st).f4 zN [.int .i64 0, .string ⟨#[]⟩, .int .i64 0, .int .i64 0, .slice none 0 0] okw (fun _ => False) rfl rfl (zN_M _ _ _) (fun _ hk => hk.elim) HNEW.out HR4.out HBW.out HSZ.out HLEN.out ?_
         intro v1 w1 hR1 hB1 hg1 hat
         obtain ⟨h1, c1, he, hb1, hl1, _⟩ := Kd.R_form hR1 (by simp)
         simp only [List.length_append, List.length_cons, List.length_nil, Nat.zero_add] at he
         subst he
         have hH1 := Kd.H_grown HHO.out hg1 (fun k hk => HR4.out.1 k hk)
         obtain ⟨⟨curg, hcg, hfg⟩, hng⟩ := hole_row hH1
         obtain ⟨curh, hch, hfh⟩ := row_at hR1
         have hne : h1 ≠ g := fun he => hng (he ▸ hR1.1 h1 (by simp [Value.ownBlock]))
         have HR1 := Y0 hR1
         have HH1 := Y0 hH1
         have HB1 := Y0 hB1
         have HG := Y0 (And.intro hcg hfg)
         have HC := Y0 (And.intro hch hfh)
         have HNEG := Y0 hne
         clear hR1 hH1 hB1 hg1 hat hcg hfg hch hfh hne hng
         refine hK.out _ _ ?_
         clear hK K
         refine norm_ (a' := ?_) ?_ ?_
         rotate_left
         ·show Act.put _ (some 68) _ = _
          simp only [Act.put, Y14, Y15, Y16]
          rfl
         have hlt1 : ((topN st).f4.length : Int) < ((topN st).f4.length : Int) + 1 := Int.lt_succ _
         refine pure_ (i := 16) (N := some 69) (v := ?_) (a' := ?_) (sqB 21 131071) rfl rfl (by kernel_rfl) (fun _ _ _ h => h) (Or.inl ⟨by rfl, ?_⟩) ?_ ?_
         rotate_left
         ·intro w'
          go_simp
          try with_reducible rfl
         rotate_left
         ·simp only [Act.put, Y14, Y15, Y16]
          rfl
         refine pure_ (i := 18) (N := some 70) (v := ?_) (a' := ?_) (sqB 21 393215) rfl rfl (by kernel_rfl) (fun _ _ _ h => h) (Or.inl ⟨by rfl, ?_⟩) ?_ ?_
         rotate_left
         ·intro w'
          go_simp
          try with_reducible rfl
         rotate_left
         ·simp only [Act.put, Y14, Y15, Y16]
          rfl
         refine pure_ (i := 19) (N := some 71) (v := ?_) (a' := ?_) (sqB 21 917503) rfl rfl (by kernel_rfl) (fun _ _ _ h => h) (Or.inl ⟨by rfl, ?_⟩) ?_ ?_
         rotate_left
         ·intro w'
          go_simp
          try with_reducible rfl
         rotate_left
         ·simp only [Act.put, Y14, Y15, Y16]
          rfl
         have HFIN : ∀ V, V = ((w1.setCells h1 ((topN st).f4.length * 5) [.int .i64 t.f0, .string t.f1, .int .i64 t.f2, .int .i64 t.f3, .slice none 0 0]).setCells g (m * 5 + 4) [.slice (some ⟨h1, 0, none⟩) ((topN st).f4.length + 1) c1]) → Aside0 (StS V W1.heap.size g cap (addTop st ⟨t.f0, t.f1, t.f2, t.f3, []⟩)) ∧ Aside0 (Below W1.heap.size W1 V) := by
          rintro V rfl
          have hS := top_put (m := m) HH1.out HR1.out (k39_mkM w1 W1.heap.size (fun _ => False) ⟨t.f0, t.f1, t.f2, t.f3, []⟩ (Kd.R_nil _ _ _ _ _)) rfl (fun _ hk => hk.elim) HM.out rfl
          refine ⟨⟨?_⟩, ⟨cells_below (Kd.S_base HS.out g (by simp [Value.ownBlock])) _ _ (cells_below hb1 _ _ HB1.out)⟩⟩
          show Kd.S k39 39 _ _ _ (.slice (some ⟨g, 0, none⟩) (addTop st ⟨t.f0, t.f1, t.f2, t.f3, []⟩).length cap) _
          rw [addTop_len, HM.out]
          exact hS
         refine wpAnyLast_ready (rs := [17, 20]) (by kernel_rfl) (by decide) (AllReadyL.cons_last (i := 17) rfl (by decide) (fun K hK => ?_) (AllReadyL.cons_last (i := 20) rfl (by decide) (fun K hK => ?_) AllReadyL.nil))
         ·refine store_row (by rfl) rfl 39 (.tmp 69) (.tmp 65) rfl (g := h1) (seg := [.int .i64 t.f0, .string t.f1, .int .i64 t.f2, .int .i64 t.f3, .slice none 0 0]) rfl rfl rfl (by kernel_rfl) HC.out.1 (by have := HC.out.2; have h5 : ((topN st).f4.length + 1) * 5 ≤ curh.size := this; show (topN st).f4.length * 5 + 5 ≤ curh.size; omega) (by simp [Value.oneCell']) ?_
          refine hK.out _ _ ?_
          clear hK K
          refine last_ (i := 20) (N := none) (sqB 21 2097151) rfl rfl (by kernel_rfl) (by decide) (fun K hK => ?_)
          refine store_row (by rfl) rfl 37 (.tmp 71) (.tmp 68) rfl (g := g) (seg := [.slice (some ⟨h1, 0, none⟩) ((topN st).f4.length + 1) c1]) rfl rfl rfl (by kernel_rfl) ((setCells_far _ _ g (Ne.symm HNEG.out)).trans HG.out.1) (by have := HG.out.2; have h5 : (m + 1) * 5 ≤ curg.size := this; show m * 5 + 4 + 1 ≤ curg.size; omega) (by simp [Value.oneCell']) ?_
          refine hK.out _ _ ?_
          clear hK K
          refine done_ (by kernel_rfl) ?_
          obtain ⟨hS9, hB9⟩ := HFIN _ (rfl)
          clear HFIN
          go_wp2
          go_roundg (l.length - (i + 1))
          case measure => have := HN.out; omega
          case rel => exact ⟨i + 1, _, g, cap, by go_num, by rw [addTop_len, HM.out], HP2, hS9, hB9, ⟨by omega⟩, HO2⟩
         ·refine store_row (by rfl) rfl 37 (.tmp 71) (.tmp 68) rfl (g := g) (seg := [.slice (some ⟨h1, 0, none⟩) ((topN st).f4.length + 1) c1]) rfl rfl rfl (by kernel_rfl) HG.out.1 (by have := HG.out.2; have h5 : (m + 1) * 5 ≤ curg.size := this; show m * 5 + 4 + 1 ≤ curg.size; omega) (by simp [Value.oneCell']) ?_
          refine hK.out _ _ ?_
          clear hK K
          refine last_ (i := 17) (N := none) (sqB 21 2097151) rfl rfl (by kernel_rfl) (by decide) (fun K hK => ?_)
          refine store_row (by rfl) rfl 39 (.tmp 69) (.tmp 65) rfl (g := h1) (seg := [.int .i64 t.f0, .string t.f1, .int .i64 t.f2, .int .i64 t.f3, .slice none 0 0]) rfl rfl rfl (by kernel_rfl) ((setCells_far _ _ h1 HNEG.out).trans HC.out.1) (by have := HC.out.2; have h5 : ((topN st).f4.length + 1) * 5 ≤ curh.size := this; show (topN st).f4.length * 5 + 5 ≤ curh.size; omega) (by simp [Value.oneCell']) ?_
          refine hK.out _ _ ?_
          clear hK K
          refine done_ (by kernel_rfl) ?_
          obtain ⟨hS9, hB9⟩ := HFIN _ ((setCells_setCell (p := ⟨g, m * 5 + 4, none⟩) HNEG.out _ _ _ _).symm)
          clear HFIN
          go_wp2
          go_roundg (l.length - (i + 1))
          case measure => have := HN.out; omega
          case rel => exact ⟨i + 1, _, g, cap, by go_num, by rw [addTop_len, HM.out], HP2, hS9, hB9, ⟨by omega⟩, HO2⟩
  ·have hR : Aside0 (R = .inl st) := ⟨by rw [← HP.out, List.drop_of_length_le (by omega)]; rfl⟩
   obtain ⟨A4, c4, htop⟩ := st_top HS.out HO.out.1
   clear HP
   by_cases h1 : 1 < st.length
   ·have d1 : decide (1 < (st.length : Int)) = true := decide_eq_true (by omega)
    have d2 : decide (1 < st.length) = true := decide_eq_true h1
    have hV : Aside0 (parseEnd s.size (parseL l [zN]) = (zN, (s.size : Int), 4)) := ⟨by rw [HRE.out, hR.out, parseEnd, if_pos h1]⟩
    clear htop hR h1
    go_wp2
    rw [hV.out]
    have k1 := box_put5 HBX.out (.int .i64 0) (.string ⟨#[]⟩) (.int .i64 0) (.int .i64 0) (.slice none 0 0)
    have k2 := set5_below (g := w.heap.size) HW.out (Nat.le_refl _) (.int .i64 0) (.string ⟨#[]⟩) (.int .i64 0) (.int .i64 0) (.slice none 0 0)
    refine sexpParse_ret (r := (zN, (s.size : Int), 4)) (v4 := .slice none 0 0) ?_ ?_ ?_ k1 (Kd.R_nil _ _ _ _ _) k2
    ·rfl
    ·rfl
    ·rfl
   ·have hst : st.length = 1 := by have := HO.out.1; omega
    have d1 : decide (1 < (st.length : Int)) = false := decide_eq_false (by omega)
    have d2 : decide (1 < st.length) = false := decide_eq_false h1
    have d3 : 0 < st.length := HO.out.1
    have htN : topN st = st.getD 0 zN := by unfold topN; rw [hst]
    rw [hst] at htop
    simp only [Nat.sub_self, Nat.zero_mul, Nat.zero_add] at htop
    by_cases h2 : (topN st).f4.length = 0
    ·have b1 : (((topN st).f4.length : Int) == 0) = true := beq_iff_eq.2 (by omega)
     have hV : Aside0 (parseEnd s.size (parseL l [zN]) = (zN, (s.size : Int), 4)) := ⟨by rw [HRE.out, hR.out, parseEnd, if_neg h1, if_pos (by rw [← htN]; exact h2)]⟩
     clear hR h1 h2 hst htN
     go_wp2
     rw [hV.out]
     have k1 := box_put5 HBX.out (.int .i64 0) (.string ⟨#[]⟩) (.int .i64 0) (.int .i64 0) (.slice none 0 0)
     have k2 := set5_below (g := w.heap.size) HW.out (Nat.le_refl _) (.int .i64 0) (.string ⟨#[]⟩) (.int .i64 0) (.int .i64 0) (.slice none 0 0)
     refine sexpParse_ret (r := (zN, (s.size : Int), 4)) (v4 := .slice none 0 0) ?_ ?_ ?_ k1 (Kd.R_nil _ _ _ _ _) k2
     ·rfl
     ·rfl
     ·rfl
    ·have b1 : (((topN st).f4.length : Int) == 0) = false := beq_eq_false_iff_ne.2 (by omega)
     have p2 : 0 < (topN st).f4.length := by omega
     have hV : Aside0 (parseEnd s.size (parseL l [zN]) = ((topN st).f4[0], (s.size : Int), 0)) := ⟨by rw [HRE.out, hR.out, parseEnd, if_neg h1, if_neg (by rw [← htN]; exact h2), ← htN, List.getD_eq_getElem?_getD, List.getElem?_eq_getElem p2, Option.getD_some]⟩
     obtain ⟨oki, cc, e1, e2, e3, e4, e5⟩ := Kd.S_lend HS.out zN 0 (by omega) (by omega)
     obtain ⟨v4, rfl, hR4⟩ := k39_openM e2
     have htop2 := e3 4 _ rfl
     rw [show st.getD (0 : Int).toNat zN = topN st from htN.symm] at hR4
     obtain ⟨g4, c4', rfl, _⟩ := Kd.R_form hR4 p2
     obtain ⟨dd, x1, x2, x3⟩ := Kd.R_getA hR4 zN 0 (by omega) (by omega)
     obtain ⟨v5, rfl, hR5⟩ := k39_openM x2
     obtain ⟨A5, c5, rfl⟩ := Kd.R_slice hR5
     have Y := fun j u h => (show wr.cell? ⟨g4, j, none⟩ = some u from by have := x3 j u h; rw [add_plain, Int.toNat_zero, Nat.zero_mul, Nat.zero_add] at this; exact this)
     have y0 := Y 0 _ rfl
     have y1 := Y 1 _ rfl
     have y2 := Y 2 _ rfl
     have y3 := Y 3 _ rfl
     have y4 := Y 4 _ rfl
     rw [show (0 : Int).toNat * k39.sz + 4 = 4 from rfl] at htop2
     have HR5 := Y0 hR5
     clear hR h1 h2 hst htN htop e1 e2 e3 e4 e5 hR4 x1 x2 x3 hR5 Y
     have hgd : (topN st).f4.getD (0 : Int).toNat zN = (topN st).f4[0] := by rw [List.getD_eq_getElem?_getD, Int.toNat_zero, List.getElem?_eq_getElem p2, Option.getD_some]
     rw [hgd] at HR5 y0 y1 y2 y3 y4
     clear hgd
     have hWs : Aside0 (w.heap.size < W1.heap.size) := ⟨by have := HB.out.size; rw [World.size_alloc] at this; omega⟩
     go_wp2
     rw [hV.out]
     have k1 := box_put5 HBX.out (.int .i64 (topN st).f4[0].f0) (.string (topN st).f4[0].f1) (.int .i64 (topN st).f4[0].f2) (.int .i64 (topN st).f4[0].f3) (.slice A5 (topN st).f4[0].f4.length c5)
     have k2 := set5_below (g := w.heap.size) HW.out (Nat.le_refl _) (.int .i64 (topN st).f4[0].f0) (.string (topN st).f4[0].f1) (.int .i64 (topN st).f4[0].f2) (.int .i64 (topN st).f4[0].f3) (.slice A5 (topN st).f4[0].f4.length c5)
     have k3 := R_set5 HR5.out hWs.out (.int .i64 (topN st).f4[0].f0) (.string (topN st).f4[0].f1) (.int .i64 (topN st).f4[0].f2) (.int .i64 (topN st).f4[0].f3) (.slice A5 (topN st).f4[0].f4.length c5)
     refine sexpParse_ret (r := ((topN st).f4[0], (s.size : Int), 0)) (v4 := .slice A5 (topN st).f4[0].f4.length c5) ?_ ?_ ?_ k1 k3 k2
     ·rfl
     ·rfl
     ·rfl
theorem allF_len (s : ByteArray) : (allF s).1.length ≤ 1000 := by
 unfold allF
 split
 ·simp
 ·rw [all_scan]
  cases h : scan 1000 0 (bl s) with
  | inr e => obtain ⟨p, e⟩ := e; simp [endL]
  | inl ts => have := scan_len _ _ _ _ _ (Nat.le_refl _) h; simp [endL]; omega
theorem allF_big (s : ByteArray) (h : 5000 < s.size) : (allF s).2.2 ≠ 0 := by
 unfold allF
 rw [if_pos (by omega)]
 decide
def sexp_Parse.f (a0 : ByteArray) : Option (Int × ByteArray × Int × Int × List (S39) × Int × Int) := some ((parseN a0).1.f0, (parseN a0).1.f1, (parseN a0).1.f2, (parseN a0).1.f3, (parseN a0).1.f4, (parseN a0).2.1, (parseN a0).2.2)
theorem sexp_Parse.calls (a0 : ByteArray) (r1 : Int) (r2 : ByteArray) (r3 : Int) (r4 : Int) (r5 : List (S39)) (r6 : Int) (r7 : Int) (w : World) (hG : GInv w) (h : sexp_Parse.f a0 = some (r1, r2, r3, r4, r5, r6, r7)) :
  Calls Tryd.prog 24 #[.string a0] w fun e w' => ∃ v4_ : Value, e = .returned (.tuple #[.agg #[.int .i64 r1, .string r2, .int .i64 r3, .int .i64 r4, v4_], .int .i64 r6, .int .i64 r7]) ∧ Kd.R k39 39 w' w.heap.size (fun _ => True) v4_ r5 ∧ Below w.heap.size w w' := by
 have hp : Calls Tryd.prog 24 #[.string a0] w (ParsePost w (parseN a0)) := by
  by_cases he : (allF a0).2.2 = 0
  ·have hsz : a0.size ≤ 5000 := by
    by_cases hb : 5000 < a0.size
    ·exact absurd he (allF_big a0 hb)
    ·omega
   have e : parseN a0 = parseEnd a0.size (parseL (allF a0).1 [zN]) := by unfold parseN; rw [if_neg (by rw [he]; decide)]
   rw [e]
   refine sexpParse_ok a0 (allF a0).1 (allF a0).2.1 w hG ?_ (allF_len a0) (by omega)
   unfold token_All.f
   rw [← he]
  ·have e : parseN a0 = (zN, (allF a0).2.1, (allF a0).2.2) := by unfold parseN; rw [if_pos he]
   rw [e]
   exact sexpParse_err a0 w hG he
 unfold sexp_Parse.f at h
 simp only [Option.some.injEq, Prod.mk.injEq] at h
 obtain ⟨rfl, rfl, rfl, rfl, rfl, rfl, rfl⟩ := h
 exact hp
end Go.Proofs.YtngcojabofkbjaaDoor.P
