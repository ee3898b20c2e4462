/- Part 4 of what the law SexpTells leans on: contracts of the functions that it reaches, and plain lemmas; printed walks and words (by the kit's print, through wip/mp.py) and the session's own texts, one behind the other, what is not used left out (wip/prune.py). -/
import Derived.Lib.LaidTab
import Derived.WalkSmall
import Derived.Shelf.Strconv.Itoa4
import Derived.Shelf.Strings.Builder1
import Derived.Shelf.Strings.Builder2
import Derived.Shelf.Strings.OnBuilder
import Derived.Shelf.Small.Strs
import Derived.Shelf.Strconv.Itoa0
import Derived.Shelf.Strconv.Itoa1
import Derived.Shelf.LaysM
import Derived.Shelf.Strconv.Itoa2
import Derived.Shelf.Strconv.Itoa3
import Derived.Shelf.Strconv.ParseIntEmpty
import Derived.Shelf.Strconv.Clone
import Derived.Shelf.Strconv.SyntaxError
import Derived.Shelf.LaysC
import Derived.Shelf.Strconv.ToError
import Derived.Shelf.Strconv.Lower
import Derived.Shelf.Strconv.ParseUint10
import Derived.Shelf.Strconv.ParseUint10Empty
import Derived.Shelf.Strconv.ParseUint10Any
import Derived.Shelf.Strconv.ParseInt10
import Derived.Shelf.Strconv.RangeError
import Derived.Shelf.Strconv.ToErrorRange
import Derived.Shelf.Strconv.ParseUintEmpty
import Derived.Shelf.Strconv.ParseUint10b64
import Derived.Shelf.Strconv.ParseUint10b32
import Derived.Shelf.Strconv.ParseUint10b16
import Derived.Shelf.Strconv.ParseUint10b8
import Derived.Shelf.Strconv.ParseUint10At
import Derived.Shelf.Strconv.ParseInt10At64
import Derived.Shelf.Strconv.ParseInt10At32
import Derived.Shelf.Strconv.ParseInt10At16
import Derived.Shelf.Strconv.ParseInt10At8
import Derived.Shelf.Strconv.ParseInt10All
import Derived.Shelf.Strconv.ParseIntPublic10
import Derived.Shelf.Strconv.ErrVarParseInt
import Derived.Shelf.Strings.Search1
import Derived.Shelf.Strings.Search2
import Derived.Shelf.Strings.Cut
import Derived.Shelf.Strings.Shaped
import Derived.Test.YtngcojabofkbjaaDoorProg
import Derived.Test.YtngcojabofkbjaaDoorMSexpTells1
import Derived.Test.YtngcojabofkbjaaDoorMSexpTells2
import Derived.Test.YtngcojabofkbjaaDoorMSexpTells3
namespace Go.Proofs.YtngcojabofkbjaaDoor.P
open Go.RowKit Go.Proofs.YtngcojabofkbjaaDoorW.PrintWords Go.Proofs.YtngcojabofkbjaaDoorW.PrintLast Go.Proofs.YtngcojabofkbjaaDoorW.PrintMore
set_option linter.unusedVariables false
set_option linter.unusedSimpArgs false
mutual
def truffleref14_may.j0 : Nat → Int → Bool → Int → ByteArray → Int → Int → List (S39) → Option (Bool)
 | 0, _, _, _, _, _, _, _ => none
 | k + 1, x1, x24, x402000, x402001, x402002, x402003, x402004 => if x24 = true then (some false) else (truffleref14_may.l0 k x1 0 x402000 x402001 x402002 x402003 x402004)
def truffleref14_may.l0 : Nat → Int → Int → Int → ByteArray → Int → Int → List (S39) → Option (Bool)
 | 0, _, _, _, _, _, _, _ => none
 | k + 1, x1, x5, x402000, x402001, x402002, x402003, x402004 => if x5 < (x402004.length : Int) then (if 0 ≤ x5 then ((truffleref14_may.f k ((rd_T39 x402004 x5).f0) ((rd_T39 x402004 x5).f1) ((rd_T39 x402004 x5).f2) ((rd_T39 x402004 x5).f3) ((rd_T39 x402004 x5).f4) (wrap64 (x1 + 1))).bind fun t403 => (if t403 = true then (truffleref14_may.l0 k x1 (wrap64 (x5 + 1)) x402000 x402001 x402002 x402003 x402004) else (some false))) else (none)) else (some true)
def truffleref14_may.j2 : Nat → Bool → Int → ByteArray → Int → Int → List (S39) → Option (Bool)
 | 0, _, _, _, _, _, _ => none
 | k + 1, x55, x402000, x402001, x402002, x402003, x402004 => if x55 = true then (some false) else (if x402000 = 2 then (if x402002 = 0 then (some true) else (some false)) else (if x402000 = 3 then (if x402002 = 0 then (some (x402001.toList == ([46] : List UInt8))) else (some false)) else ((truffleref06_All.f k x402001).bind fun bt404 => (if bt404.2.2 = 0 then (if (bt404.1.length : Int) = 1 then (if 0 < (bt404.1.length : Int) then (if ((rd_T29 bt404.1 0).f0) = x402000 then (if ((rd_T29 bt404.1 0).f1).toList = x402001.toList then (if ((rd_T29 bt404.1 0).f2) = x402002 then (some (((rd_T29 bt404.1 0).f3) == 0)) else (some false)) else (some false)) else (some false)) else (none)) else (some false)) else (some false)))))
def truffleref14_may.f : Nat → Int → ByteArray → Int → Int → List (S39) → Int → Option (Bool)
 | 0, _, _, _, _, _, _ => none
 | k + 1, a0_0, a0_1, a0_2, a0_3, l0_4, a1 => if a0_0 = 4 then (if a1 ≥ 16 then (truffleref14_may.j0 k a1 true a0_0 a0_1 a0_2 a0_3 l0_4) else (if a0_1.toList = ([] : List UInt8) then (truffleref14_may.j0 k a1 (a0_2 != 0) a0_0 a0_1 a0_2 a0_3 l0_4) else (truffleref14_may.j0 k a1 true a0_0 a0_1 a0_2 a0_3 l0_4))) else (if a0_0 < 0 then (truffleref14_may.j2 k true a0_0 a0_1 a0_2 a0_3 l0_4) else (if a0_0 > 4 then (truffleref14_may.j2 k true a0_0 a0_1 a0_2 a0_3 l0_4) else (truffleref14_may.j2 k (decide ((l0_4.length : Int) > 0)) a0_0 a0_1 a0_2 a0_3 l0_4)))
end
set_option maxHeartbeats 8000000 in
set_option maxRecDepth 100000 in
theorem truffleref14_may.calls (k : Nat) : ∀ (a0_0 : Int) (a0_1 : ByteArray) (a0_2 : Int) (a0_3 : Int) (A0_4 : Option Addr) (c0_4 : Nat) (l0_4 : List (S39)) (a1 : Int) (r : Bool) (w : World) (hr0_4 : Kd.C k39 w A0_4 l0_4.length l0_4) (hc0_4 : l0_4.length ≤ c0_4) (h : truffleref14_may.f k a0_0 a0_1 a0_2 a0_3 l0_4 a1 = some r),
  Calls Tryd.prog 50 #[.agg #[.int .i64 a0_0, .string a0_1, .int .i64 a0_2, .int .i64 a0_3, .slice A0_4 l0_4.length c0_4], .int .i64 a1] w fun e w' => e = .returned (.bool r) ∧ Below w.heap.size w w' := by
 induction k using Nat.strongRecOn with
 | _ k ih =>
 intro a0_0 a0_1 a0_2 a0_3 A0_4 c0_4 l0_4 a1 r w hr0_4 hc0_4 h
 cases k with
 | zero => exact absurd h (by simp [truffleref14_may.f])
 | succ k =>
 simp only [truffleref14_may.f] at h
 have hu39 := Tryd.underlying39
 have HR0_4 := Y0 hr0_4
 have HC0_4 := Y0 hc0_4
 clear hr0_4 hc0_4
 have HB := Y0 (Below.refl w.heap.size w)
 have H : (if a0_0 = 4 then (if a1 ≥ 16 then (truffleref14_may.j0 k a1 true a0_0 a0_1 a0_2 a0_3 l0_4) else (if a0_1.toList = ([] : List UInt8) then (truffleref14_may.j0 k a1 (a0_2 != 0) a0_0 a0_1 a0_2 a0_3 l0_4) else (truffleref14_may.j0 k a1 true a0_0 a0_1 a0_2 a0_3 l0_4))) else (if a0_0 < 0 then (truffleref14_may.j2 k true a0_0 a0_1 a0_2 a0_3 l0_4) else (if a0_0 > 4 then (truffleref14_may.j2 k true a0_0 a0_1 a0_2 a0_3 l0_4) else (truffleref14_may.j2 k (decide ((l0_4.length : Int) > 0)) a0_0 a0_1 a0_2 a0_3 l0_4)))) = some r := h
 clear h
 by_cases c3 : a0_0 = 4
 ·rw [if_pos c3] at H
  have c3b0 : (a0_0 == 4) = true := beq_iff_eq.mpr c3
  have c3b1 : (a0_0 != 4) = false := bne_eq_false_iff_eq.mpr c3
  clear c3
  have HC4 := Y0 H
  clear H
  go_enter Tryd.func50, Tryd.ntmps50
  go_upto_region 2 with (first | ((with_reducible refine gate_dst (N := 2) rfl ?_); (try (refine gate_guard (by rfl) ?_; dsimp only)); refine box_event ?hg (N := 2) ?hd (cs := #[.int .i64 a0_0, .string a0_1, .int .i64 a0_2, .int .i64 a0_3, .slice A0_4 l0_4.length c0_4]) (t := 39) ?hr ?_; (case hd => rfl); (case hg => rfl); (case hr => first | (go_simp; done) | (go_simp; rfl)); intro gb401 hg w5 hbox hb; have n0_ := Y0 (below_step (by repeat (with_reducible first | exact HB.out | apply Y3 | apply Y1 | apply Y2)) hb); have n1_ := Y0 (hbox); have n2_ := Y0 ((by rw [hg]; exact (below_size (by repeat (with_reducible first | exact HB.out | apply Y3 | apply Y1 | apply Y2))) : w.heap.size ≤ gb401)); have n3_ := Y0 ((by rw [hg]; exact (below_size (by repeat (with_reducible first | exact HB.out | apply Y3 | apply Y1 | apply Y2))) : w.heap.size ≤ gb401)); clear HB; have HB := n0_; have BK401 := n1_; have GW401 := n2_; have GE401 := n3_; clear n0_ n1_ n2_ n3_; clear hb hbox hg; have ⟨hcz6_0, hcz6_1, hcz6_2, hcz6_3, hcz6_4, hfz6_0, hfz6_1, hfz6_2, hfz6_3, hfz6_4⟩ := sq_box5 BK401.out))
  repeat (go_quiet (fail); try go_wp2)
  (try simp only [Act.put, Y14, Y15, Y16])
  go_cut [24] (fun v24 wc => ∃ (kq : Nat) (x24_3 : Bool), v24 = .bool x24_3 ∧ Aside0 (truffleref14_may.j0 kq a1 x24_3 a0_0 a0_1 a0_2 a0_3 l0_4 = some r) ∧ Aside0 (kq ≤ k) ∧ Aside0 (wc.heap[gb401]? = some (.cells #[.int .i64 a0_0, .string a0_1, .int .i64 a0_2, .int .i64 a0_3, (.slice A0_4 l0_4.length c0_4)] 39 (0, 0))) ∧ Aside0 (Below w.heap.size w wc))
  case first =>
   have H := HC4.out
   clear HC4
   by_cases c7 : a1 ≥ 16
   ·rw [if_pos c7] at H
    have c7b0 : decide (16 ≤ a1) = true := decide_eq_true c7
    clear c7
    (first | rw [c7b0] | (simp only [i64_w]; rw [c7b0]) | skip)
    have H' := Y0 H
    clear H
    go_wp2
    repeat (go_quiet (fail); try go_wp2)
    go_meet
    case rel => exact ⟨_, (true), (by first | rfl | (simp; done) | (simp [*]; done)), H', ⟨by first | omega | exact Nat.le_refl _⟩, ⟨by (with_reducible repeat first | apply Y11 | apply Y13 | apply Y12); exact BK401.out⟩, ⟨by repeat (with_reducible first | exact HB.out | apply Y3 | apply Y1 | apply Y2 | refine Y4 ?_ GE401.out)⟩⟩
   rw [if_neg c7] at H
   have c7b0 : decide (16 ≤ a1) = false := decide_eq_false c7
   clear c7
   (first | rw [c7b0] | (simp only [i64_w]; rw [c7b0]) | skip)
   by_cases c8 : a0_1.toList = ([] : List UInt8)
   rotate_left
   ·rw [if_neg c8] at H
    have c8b0 : (a0_1.toList == ([] : List UInt8)) = false := beq_eq_false_iff_ne.mpr c8
    have c8b1 : (a0_1.toList != ([] : List UInt8)) = true := bne_iff_ne.mpr c8
    have H' := Y0 H
    clear H
    have ⟨hcz10_0, hcz10_1, hcz10_2, hcz10_3, hcz10_4, hfz10_0, hfz10_1, hfz10_2, hfz10_3, hfz10_4⟩ := sq_box5 BK401.out
    go_wp2
    repeat (go_quiet (fail); try go_wp2)
    go_meet
    case rel => exact ⟨_, (true), (by first | rfl | (simp; done) | (simp [*]; done)), H', ⟨by first | omega | exact Nat.le_refl _⟩, ⟨by (with_reducible repeat first | apply Y11 | apply Y13 | apply Y12); exact BK401.out⟩, ⟨by repeat (with_reducible first | exact HB.out | apply Y3 | apply Y1 | apply Y2 | refine Y4 ?_ GE401.out)⟩⟩
   rw [if_pos c8] at H
   have c8b0 : (a0_1.toList == ([] : List UInt8)) = true := beq_iff_eq.mpr c8
   have c8b1 : (a0_1.toList != ([] : List UInt8)) = false := bne_eq_false_iff_eq.mpr c8
   clear c8
   have H' := Y0 H
   clear H
   have ⟨hcz9_0, hcz9_1, hcz9_2, hcz9_3, hcz9_4, hfz9_0, hfz9_1, hfz9_2, hfz9_3, hfz9_4⟩ := sq_box5 BK401.out
   go_wp2
   repeat (go_quiet (fail); try go_wp2)
   go_meet
   case rel => exact ⟨_, ((a0_2 != 0)), (by first | rfl | (simp; done) | (simp [*]; done)), H', ⟨by first | omega | exact Nat.le_refl _⟩, ⟨by (with_reducible repeat first | apply Y11 | apply Y13 | apply Y12); exact BK401.out⟩, ⟨by repeat (with_reducible first | exact HB.out | apply Y3 | apply Y1 | apply Y2 | refine Y4 ?_ GE401.out)⟩⟩
  case rest =>
   clear HC4
   obtain ⟨kq, x24_3, rfl, HA, HJ3, BK401, HB⟩ := hcut
   cases kq with
   | zero => exact absurd HA.out (by simp [truffleref14_may.j0])
   | succ kj3 =>
    have H := HA.out
    clear HA
    simp only [truffleref14_may.j0] at H
    by_cases c11 : x24_3 = true
    ·subst c11
     rw [if_pos rfl] at H
     obtain rfl := Option.some.inj H
     go_wp2
     repeat (go_quiet (fail); try go_wp2)
     go_ret
     exact ⟨by first | rfl | (simp [] <;> rfl) | (simp [*] <;> rfl), by repeat (with_reducible first | exact HB.out | apply Y3 | apply Y1 | apply Y2 | refine Y4 ?_ GE401.out)⟩
    replace c11 := Bool.eq_false_iff.mpr c11
    subst c11
    rw [if_neg (show ¬ (false = true) by decide)] at H
    have H' := Y0 H
    clear H
    go_wp2
    repeat (go_quiet (fail); try go_wp2)
    go_loopg [5] kj3 (fun kq v5 w' => ∃ (x5_2 : Int), v5 = .int .i64 x5_2 ∧ Aside0 (truffleref14_may.l0 kq a1 x5_2 a0_0 a0_1 a0_2 a0_3 l0_4 = some r) ∧ Aside0 (kq ≤ kj3) ∧ Aside0 (w'.heap[gb401]? = some (.cells #[.int .i64 a0_0, .string a0_1, .int .i64 a0_2, .int .i64 a0_3, (.slice A0_4 l0_4.length c0_4)] 39 (0, 0))) ∧ Aside0 (Below w.heap.size w w'))
    case atStart => exact ⟨(0), (by first | rfl | (simp; done) | (simp [*]; done)), H', ⟨Nat.le_refl _⟩, ⟨by (with_reducible repeat first | apply Y11 | apply Y13 | apply Y12); exact BK401.out⟩, ⟨by repeat (with_reducible first | exact HB.out | apply Y3 | apply Y1 | apply Y2 | refine Y4 ?_ GE401.out)⟩⟩
    case round =>
     clear H'
     obtain ⟨x5_2, rfl, HA, HK2, BK401, HB⟩ := hrel
     cases gk with
     | zero => exact absurd HA.out (by simp [truffleref14_may.l0])
     | succ k2 =>
      have H := HA.out
      clear HA
      simp only [truffleref14_may.l0] at H
      by_cases c12 : x5_2 < (l0_4.length : Int)
      rotate_left
      ·rw [if_neg c12] at H
       have c12b0 : decide (x5_2 < (l0_4.length : Int)) = false := decide_eq_false c12
       clear c12
       obtain rfl := Option.some.inj H
       have ⟨hcz20_0, hcz20_1, hcz20_2, hcz20_3, hcz20_4, hfz20_0, hfz20_1, hfz20_2, hfz20_3, hfz20_4⟩ := sq_box5 BK401.out
       go_wp2
       repeat (go_quiet (fail); try go_wp2)
       go_ret
       exact ⟨by first | rfl | (simp [] <;> rfl) | (simp [*] <;> rfl), by repeat (with_reducible first | exact HB.out | apply Y3 | apply Y1 | apply Y2 | refine Y4 ?_ GE401.out)⟩
      rw [if_pos c12] at H
      have c12b0 : decide (x5_2 < (l0_4.length : Int)) = true := decide_eq_true c12
      clear c12
      by_cases c13 : 0 ≤ x5_2
      rotate_left
      ·rw [if_neg c13] at H
       exact absurd H (by simp)
      rw [if_pos c13] at H
      have c13b0 : decide (0 ≤ x5_2) = true := decide_eq_true c13
      clear c13
      replace H := Y17.mp H
      obtain ⟨t403, A140, H⟩ := H
      try dsimp only at H
      have A14 := Y0 A140
      clear A140
      by_cases c15 : t403 = true
      rotate_left
      ·replace c15 := Bool.eq_false_iff.mpr c15
       subst c15
       rw [if_neg (show ¬ (false = true) by decide)] at H
       obtain rfl := Option.some.inj H
       have ⟨hcz18_0, hcz18_1, hcz18_2, hcz18_3, hcz18_4, hfz18_0, hfz18_1, hfz18_2, hfz18_3, hfz18_4⟩ := sq_box5 BK401.out
       have p402 : 0 ≤ (x5_2 : Int) := of_decide_eq_true (by first | (with_reducible assumption) | assumption)
       have q402 : x5_2 < (l0_4.length : Int) := of_decide_eq_true (by first | (with_reducible assumption) | assumption)
       obtain ⟨ad402, A402_4, c402_4, e402, hx402_0, hx402_1, hx402_2, hx402_3, hx402_4, hl402_4, hi402_4⟩ := at_T39 HR0_4.out x5_2 p402 q402
       cases e402
       replace hx402_0 := (HB.out.cell (World.block_lt_of_cell? w _ hx402_0)).trans hx402_0
       replace hx402_1 := (HB.out.cell (World.block_lt_of_cell? w _ hx402_1)).trans hx402_1
       replace hx402_2 := (HB.out.cell (World.block_lt_of_cell? w _ hx402_2)).trans hx402_2
       replace hx402_3 := (HB.out.cell (World.block_lt_of_cell? w _ hx402_3)).trans hx402_3
       replace hx402_4 := (HB.out.cell (World.block_lt_of_cell? w _ hx402_4)).trans hx402_4
       have HR402_4 := Y0 hi402_4
       have HC402_4 := Y0 hl402_4
       clear hi402_4 hl402_4
       replace p402 := eq_true p402
       replace q402 := eq_true q402
       go_wp2_with (first | (go_at_call 50; (with_reducible refine (ih k2 (by have := HJ3.out; have := HK2.out; omega) ((rd_T39 l0_4 x5_2).f0) ((rd_T39 l0_4 x5_2).f1) ((rd_T39 l0_4 x5_2).f2) ((rd_T39 l0_4 x5_2).f3) _ _ ((rd_T39 l0_4 x5_2).f4) (wrap64 (a1 + 1)) false _ ?side1 ?side2 A14.out).mono ?_); (case side1 => repeat (first | exact (Kd.C_below HR402_4.out HB.out) | (with_reducible refine Kd.C_alloc ?_ _) | (with_reducible refine Kd.C_drewN ?_ _) | (with_reducible refine Kd.C_drew ?_))); (case side2 => exact HC402_4.out); rintro e w19 ⟨rfl, hb⟩; have n0_ := Y0 (blk_below (g := gb401) (o := .cells #[.int .i64 a0_0, .string a0_1, .int .i64 a0_2, .int .i64 a0_3, .slice (some ad402) l0_4.length c0_4] 39 (0, 0)) (by (with_reducible repeat first | apply Y11 | apply Y13 | apply Y12); exact BK401.out) hb); have n1_ := Y0 (below_step (by repeat (with_reducible first | exact HB.out | apply Y3 | apply Y1 | apply Y2 | refine Y4 ?_ GE401.out)) hb); clear BK401; clear HB; have BK401 := n0_; have HB := n1_; clear n0_ n1_; (try clear hb); (try clear hb2); (try clear hk); (try clear hi)))
       repeat (go_quiet (fail); try go_wp2)
       go_ret
       exact ⟨by first | rfl | (simp [] <;> rfl) | (simp [*] <;> rfl), by repeat (with_reducible first | exact HB.out | apply Y3 | apply Y1 | apply Y2 | refine Y4 ?_ GE401.out)⟩
      subst c15
      rw [if_pos rfl] at H
      have H' := Y0 H
      clear H
      have ⟨hcz16_0, hcz16_1, hcz16_2, hcz16_3, hcz16_4, hfz16_0, hfz16_1, hfz16_2, hfz16_3, hfz16_4⟩ := sq_box5 BK401.out
      have p402 : 0 ≤ (x5_2 : Int) := of_decide_eq_true (by first | (with_reducible assumption) | assumption)
      have q402 : x5_2 < (l0_4.length : Int) := of_decide_eq_true (by first | (with_reducible assumption) | assumption)
      obtain ⟨ad402, A402_4, c402_4, e402, hx402_0, hx402_1, hx402_2, hx402_3, hx402_4, hl402_4, hi402_4⟩ := at_T39 HR0_4.out x5_2 p402 q402
      cases e402
      replace hx402_0 := (HB.out.cell (World.block_lt_of_cell? w _ hx402_0)).trans hx402_0
      replace hx402_1 := (HB.out.cell (World.block_lt_of_cell? w _ hx402_1)).trans hx402_1
      replace hx402_2 := (HB.out.cell (World.block_lt_of_cell? w _ hx402_2)).trans hx402_2
      replace hx402_3 := (HB.out.cell (World.block_lt_of_cell? w _ hx402_3)).trans hx402_3
      replace hx402_4 := (HB.out.cell (World.block_lt_of_cell? w _ hx402_4)).trans hx402_4
      have HR402_4 := Y0 hi402_4
      have HC402_4 := Y0 hl402_4
      clear hi402_4 hl402_4
      replace p402 := eq_true p402
      replace q402 := eq_true q402
      go_wp2_with (first | (go_at_call 50; (with_reducible refine (ih k2 (by have := HJ3.out; have := HK2.out; omega) ((rd_T39 l0_4 x5_2).f0) ((rd_T39 l0_4 x5_2).f1) ((rd_T39 l0_4 x5_2).f2) ((rd_T39 l0_4 x5_2).f3) _ _ ((rd_T39 l0_4 x5_2).f4) (wrap64 (a1 + 1)) true _ ?side1 ?side2 A14.out).mono ?_); (case side1 => repeat (first | exact (Kd.C_below HR402_4.out HB.out) | (with_reducible refine Kd.C_alloc ?_ _) | (with_reducible refine Kd.C_drewN ?_ _) | (with_reducible refine Kd.C_drew ?_))); (case side2 => exact HC402_4.out); rintro e w17 ⟨rfl, hb⟩; have n0_ := Y0 (blk_below (g := gb401) (o := .cells #[.int .i64 a0_0, .string a0_1, .int .i64 a0_2, .int .i64 a0_3, .slice (some ad402) l0_4.length c0_4] 39 (0, 0)) (by (with_reducible repeat first | apply Y11 | apply Y13 | apply Y12); exact BK401.out) hb); have n1_ := Y0 (below_step (by repeat (with_reducible first | exact HB.out | apply Y3 | apply Y1 | apply Y2 | refine Y4 ?_ GE401.out)) hb); clear BK401; clear HB; have BK401 := n0_; have HB := n1_; clear n0_ n1_; (try clear hb); (try clear hb2); (try clear hk); (try clear hi)))
      repeat (go_quiet (fail); try go_wp2)
      go_roundg k2
      case measure => have := HJ3.out; have := HK2.out; omega
      case rel => exact ⟨(wrap64 (x5_2 + 1)), (by first | rfl | (simp; done) | (simp [*]; done)), H', ⟨by have := HJ3.out; have := HK2.out; omega⟩, ⟨by (with_reducible repeat first | apply Y11 | apply Y13 | apply Y12); exact BK401.out⟩, ⟨by repeat (with_reducible first | exact HB.out | apply Y3 | apply Y1 | apply Y2 | refine Y4 ?_ GE401.out)⟩⟩
 rw [if_neg c3] at H
 have c3b0 : (a0_0 == 4) = false := beq_eq_false_iff_ne.mpr c3
 have c3b1 : (a0_0 != 4) = true := bne_iff_ne.mpr c3
 have HC21 := Y0 H
 clear H
 go_enter Tryd.func50, Tryd.ntmps50
 go_upto_region 11 with (first | ((with_reducible refine gate_dst (N := 2) rfl ?_); (try (refine gate_guard (by rfl) ?_; dsimp only)); refine box_event ?hg (N := 2) ?hd (cs := #[.int .i64 a0_0, .string a0_1, .int .i64 a0_2, .int .i64 a0_3, .slice A0_4 l0_4.length c0_4]) (t := 39) ?hr ?_; (case hd => rfl); (case hg => rfl); (case hr => first | (go_simp; done) | (go_simp; rfl)); intro gb401 hg w22 hbox hb; have n0_ := Y0 (below_step (by repeat (with_reducible first | exact HB.out | apply Y3 | apply Y1 | apply Y2)) hb); have n1_ := Y0 (hbox); have n2_ := Y0 ((by rw [hg]; exact (below_size (by repeat (with_reducible first | exact HB.out | apply Y3 | apply Y1 | apply Y2))) : w.heap.size ≤ gb401)); have n3_ := Y0 ((by rw [hg]; exact (below_size (by repeat (with_reducible first | exact HB.out | apply Y3 | apply Y1 | apply Y2))) : w.heap.size ≤ gb401)); clear HB; have HB := n0_; have BK401 := n1_; have GW401 := n2_; have GE401 := n3_; clear n0_ n1_ n2_ n3_; clear hb hbox hg; have ⟨hcz23_0, hcz23_1, hcz23_2, hcz23_3, hcz23_4, hfz23_0, hfz23_1, hfz23_2, hfz23_3, hfz23_4⟩ := sq_box5 BK401.out))
 repeat (go_quiet (fail); try go_wp2)
 (try simp only [Act.put, Y14, Y15, Y16])
 go_cut [55] (fun v55 wc => ∃ (kq : Nat) (x55_20 : Bool), v55 = .bool x55_20 ∧ Aside0 (truffleref14_may.j2 kq x55_20 a0_0 a0_1 a0_2 a0_3 l0_4 = some r) ∧ Aside0 (kq ≤ k) ∧ Aside0 (wc.heap[gb401]? = some (.cells #[.int .i64 a0_0, .string a0_1, .int .i64 a0_2, .int .i64 a0_3, (.slice A0_4 l0_4.length c0_4)] 39 (0, 0))) ∧ Aside0 (Below w.heap.size w wc))
 case first =>
  have H := HC21.out
  clear HC21
  by_cases c24 : a0_0 < 0
  ·rw [if_pos c24] at H
   have c24b0 : decide (a0_0 < 0) = true := decide_eq_true c24
   clear c24
   (first | rw [c24b0] | (simp only [i64_w]; rw [c24b0]) | skip)
   have H' := Y0 H
   clear H
   have ⟨hcz25_0, hcz25_1, hcz25_2, hcz25_3, hcz25_4, hfz25_0, hfz25_1, hfz25_2, hfz25_3, hfz25_4⟩ := sq_box5 BK401.out
   go_wp2
   repeat (go_quiet (fail); try go_wp2)
   go_meet
   case rel => exact ⟨_, (true), (by first | rfl | (simp; done) | (simp [*]; done)), H', ⟨by first | omega | exact Nat.le_refl _⟩, ⟨by (with_reducible repeat first | apply Y11 | apply Y13 | apply Y12); exact BK401.out⟩, ⟨by repeat (with_reducible first | exact HB.out | apply Y3 | apply Y1 | apply Y2 | refine Y4 ?_ GE401.out)⟩⟩
  rw [if_neg c24] at H
  have c24b0 : decide (a0_0 < 0) = false := decide_eq_false c24
  clear c24
  (first | rw [c24b0] | (simp only [i64_w]; rw [c24b0]) | skip)
  by_cases c26 : a0_0 > 4
  ·rw [if_pos c26] at H
   have c26b0 : decide (4 < a0_0) = true := decide_eq_true c26
   clear c26
   have H' := Y0 H
   clear H
   have ⟨hcz27_0, hcz27_1, hcz27_2, hcz27_3, hcz27_4, hfz27_0, hfz27_1, hfz27_2, hfz27_3, hfz27_4⟩ := sq_box5 BK401.out
   go_wp2
   repeat (go_quiet (fail); try go_wp2)
   go_meet
   case rel => exact ⟨_, (true), (by first | rfl | (simp; done) | (simp [*]; done)), H', ⟨by first | omega | exact Nat.le_refl _⟩, ⟨by (with_reducible repeat first | apply Y11 | apply Y13 | apply Y12); exact BK401.out⟩, ⟨by repeat (with_reducible first | exact HB.out | apply Y3 | apply Y1 | apply Y2 | refine Y4 ?_ GE401.out)⟩⟩
  rw [if_neg c26] at H
  have c26b0 : decide (4 < a0_0) = false := decide_eq_false c26
  clear c26
  have H' := Y0 H
  clear H
  have ⟨hcz28_0, hcz28_1, hcz28_2, hcz28_3, hcz28_4, hfz28_0, hfz28_1, hfz28_2, hfz28_3, hfz28_4⟩ := sq_box5 BK401.out
  go_wp2
  repeat (go_quiet (fail); try go_wp2)
  go_meet
  case rel => exact ⟨_, (decide ((l0_4.length : Int) > 0)), (by first | rfl | (simp; done) | (simp [*]; done)), H', ⟨by first | omega | exact Nat.le_refl _⟩, ⟨by (with_reducible repeat first | apply Y11 | apply Y13 | apply Y12); exact BK401.out⟩, ⟨by repeat (with_reducible first | exact HB.out | apply Y3 | apply Y1 | apply Y2 | refine Y4 ?_ GE401.out)⟩⟩
 case rest =>
  clear HC21
  obtain ⟨kq, x55_20, rfl, HA, HJ20, BK401, HB⟩ := hcut
  cases kq with
  | zero => exact absurd HA.out (by simp [truffleref14_may.j2])
  | succ kj20 =>
   have H := HA.out
   clear HA
   simp only [truffleref14_may.j2] at H
   by_cases c29 : x55_20 = true
   ·subst c29
    rw [if_pos rfl] at H
    obtain rfl := Option.some.inj H
    go_wp2
    repeat (go_quiet (fail); try go_wp2)
    go_ret
    exact ⟨by first | rfl | (simp [] <;> rfl) | (simp [*] <;> rfl), by repeat (with_reducible first | exact HB.out | apply Y3 | apply Y1 | apply Y2 | refine Y4 ?_ GE401.out)⟩
   replace c29 := Bool.eq_false_iff.mpr c29
   subst c29
   rw [if_neg (show ¬ (false = true) by decide)] at H
   by_cases c30 : a0_0 = 2
   ·rw [if_pos c30] at H
    have c30b0 : (a0_0 == 2) = true := beq_iff_eq.mpr c30
    have c30b1 : (a0_0 != 2) = false := bne_eq_false_iff_eq.mpr c30
    clear c30
    by_cases c31 : a0_2 = 0
    rotate_left
    ·rw [if_neg c31] at H
     have c31b0 : (a0_2 == 0) = false := beq_eq_false_iff_ne.mpr c31
     have c31b1 : (a0_2 != 0) = true := bne_iff_ne.mpr c31
     obtain rfl := Option.some.inj H
     have ⟨hcz33_0, hcz33_1, hcz33_2, hcz33_3, hcz33_4, hfz33_0, hfz33_1, hfz33_2, hfz33_3, hfz33_4⟩ := sq_box5 BK401.out
     go_wp2
     repeat (go_quiet (fail); try go_wp2)
     go_ret
     exact ⟨by first | rfl | (simp [] <;> rfl) | (simp [*] <;> rfl), by repeat (with_reducible first | exact HB.out | apply Y3 | apply Y1 | apply Y2 | refine Y4 ?_ GE401.out)⟩
    rw [if_pos c31] at H
    have c31b0 : (a0_2 == 0) = true := beq_iff_eq.mpr c31
    have c31b1 : (a0_2 != 0) = false := bne_eq_false_iff_eq.mpr c31
    clear c31
    obtain rfl := Option.some.inj H
    have ⟨hcz32_0, hcz32_1, hcz32_2, hcz32_3, hcz32_4, hfz32_0, hfz32_1, hfz32_2, hfz32_3, hfz32_4⟩ := sq_box5 BK401.out
    go_wp2
    repeat (go_quiet (fail); try go_wp2)
    go_ret
    exact ⟨by first | rfl | (simp [] <;> rfl) | (simp [*] <;> rfl), by repeat (with_reducible first | exact HB.out | apply Y3 | apply Y1 | apply Y2 | refine Y4 ?_ GE401.out)⟩
   rw [if_neg c30] at H
   have c30b0 : (a0_0 == 2) = false := beq_eq_false_iff_ne.mpr c30
   have c30b1 : (a0_0 != 2) = true := bne_iff_ne.mpr c30
   by_cases c34 : a0_0 = 3
   ·rw [if_pos c34] at H
    have c34b0 : (a0_0 == 3) = true := beq_iff_eq.mpr c34
    have c34b1 : (a0_0 != 3) = false := bne_eq_false_iff_eq.mpr c34
    clear c34
    by_cases c35 : a0_2 = 0
    rotate_left
    ·rw [if_neg c35] at H
     have c35b0 : (a0_2 == 0) = false := beq_eq_false_iff_ne.mpr c35
     have c35b1 : (a0_2 != 0) = true := bne_iff_ne.mpr c35
     obtain rfl := Option.some.inj H
     have ⟨hcz37_0, hcz37_1, hcz37_2, hcz37_3, hcz37_4, hfz37_0, hfz37_1, hfz37_2, hfz37_3, hfz37_4⟩ := sq_box5 BK401.out
     go_wp2
     repeat (go_quiet (fail); try go_wp2)
     go_ret
     exact ⟨by first | rfl | (simp [] <;> rfl) | (simp [*] <;> rfl), by repeat (with_reducible first | exact HB.out | apply Y3 | apply Y1 | apply Y2 | refine Y4 ?_ GE401.out)⟩
    rw [if_pos c35] at H
    have c35b0 : (a0_2 == 0) = true := beq_iff_eq.mpr c35
    have c35b1 : (a0_2 != 0) = false := bne_eq_false_iff_eq.mpr c35
    clear c35
    obtain rfl := Option.some.inj H
    have ⟨hcz36_0, hcz36_1, hcz36_2, hcz36_3, hcz36_4, hfz36_0, hfz36_1, hfz36_2, hfz36_3, hfz36_4⟩ := sq_box5 BK401.out
    go_wp2
    repeat (go_quiet (fail); try go_wp2)
    go_ret
    exact ⟨by first | rfl | (simp [] <;> rfl) | (simp [*] <;> rfl), by repeat (with_reducible first | exact HB.out | apply Y3 | apply Y1 | apply Y2 | refine Y4 ?_ GE401.out)⟩
   rw [if_neg c34] at H
   have c34b0 : (a0_0 == 3) = false := beq_eq_false_iff_ne.mpr c34
   have c34b1 : (a0_0 != 3) = true := bne_iff_ne.mpr c34
   replace H := Y17.mp H
   obtain ⟨⟨t404, t405, t406⟩, A380, H⟩ := H
   try dsimp only at H
   have A38 := Y0 A380
   clear A380
   by_cases c39 : t406 = 0
   rotate_left
   ·rw [if_neg c39] at H
    have c39b0 : (t406 == 0) = false := beq_eq_false_iff_ne.mpr c39
    have c39b1 : (t406 != 0) = true := bne_iff_ne.mpr c39
    obtain rfl := Option.some.inj H
    have ⟨hcz64_0, hcz64_1, hcz64_2, hcz64_3, hcz64_4, hfz64_0, hfz64_1, hfz64_2, hfz64_3, hfz64_4⟩ := sq_box5 BK401.out
    go_wp2_with (first | (go_at_call 18; (with_reducible refine (truffleref06_All.calls kj20 a0_1 t404 t405 t406 _ A38.out).mono ?_); rintro e w65 ⟨v407, rfl, ho0, hb⟩; have n0_ := Y0 (Kd.R_lower ho0 (below_size (by repeat (with_reducible first | exact HB.out | apply Y3 | apply Y1 | apply Y2 | refine Y4 ?_ GE401.out)))); have n1_ := Y0 (blk_below (g := gb401) (o := .cells #[.int .i64 a0_0, .string a0_1, .int .i64 a0_2, .int .i64 a0_3, .slice A0_4 l0_4.length c0_4] 39 (0, 0)) (by (with_reducible repeat first | apply Y11 | apply Y13 | apply Y12); exact BK401.out) hb); have n2_ := Y0 (below_step (by repeat (with_reducible first | exact HB.out | apply Y3 | apply Y1 | apply Y2 | refine Y4 ?_ GE401.out)) hb); clear BK401; clear HB; have HO408 := n0_; have BK401 := n1_; have HB := n2_; clear n0_ n1_ n2_; (try clear hb); (try clear hb2); (try clear hk); (try clear hi); (try clear ho0)))
    repeat (go_quiet (fail); try go_wp2)
    go_ret
    exact ⟨by first | rfl | (simp [] <;> rfl) | (simp [*] <;> rfl), by repeat (with_reducible first | exact HB.out | apply Y3 | apply Y1 | apply Y2 | refine Y4 ?_ GE401.out)⟩
   rw [if_pos c39] at H
   have c39b0 : (t406 == 0) = true := beq_iff_eq.mpr c39
   have c39b1 : (t406 != 0) = false := bne_eq_false_iff_eq.mpr c39
   clear c39
   by_cases c40 : (t404.length : Int) = 1
   rotate_left
   ·rw [if_neg c40] at H
    have c40b0 : ((t404.length : Int) == 1) = false := beq_eq_false_iff_ne.mpr c40
    have c40b1 : ((t404.length : Int) != 1) = true := bne_iff_ne.mpr c40
    obtain rfl := Option.some.inj H
    have ⟨hcz61_0, hcz61_1, hcz61_2, hcz61_3, hcz61_4, hfz61_0, hfz61_1, hfz61_2, hfz61_3, hfz61_4⟩ := sq_box5 BK401.out
    go_wp2_with (first | (go_at_call 18; (with_reducible refine (truffleref06_All.calls kj20 a0_1 t404 t405 t406 _ A38.out).mono ?_); rintro e w62 ⟨v407, rfl, ho0, hb⟩; have n0_ := Y0 (Kd.R_lower ho0 (below_size (by repeat (with_reducible first | exact HB.out | apply Y3 | apply Y1 | apply Y2 | refine Y4 ?_ GE401.out)))); have n1_ := Y0 (blk_below (g := gb401) (o := .cells #[.int .i64 a0_0, .string a0_1, .int .i64 a0_2, .int .i64 a0_3, .slice A0_4 l0_4.length c0_4] 39 (0, 0)) (by (with_reducible repeat first | apply Y11 | apply Y13 | apply Y12); exact BK401.out) hb); have n2_ := Y0 (below_step (by repeat (with_reducible first | exact HB.out | apply Y3 | apply Y1 | apply Y2 | refine Y4 ?_ GE401.out)) hb); clear BK401; clear HB; have HO408 := n0_; have BK401 := n1_; have HB := n2_; clear n0_ n1_ n2_; (try clear hb); (try clear hb2); (try clear hk); (try clear hi); (try clear ho0); obtain ⟨Ao63, co63, eo63⟩ := Kd.R_slice HO408.out; subst eo63))
    repeat (go_quiet (fail); try go_wp2)
    go_ret
    exact ⟨by first | rfl | (simp [] <;> rfl) | (simp [*] <;> rfl), by repeat (with_reducible first | exact HB.out | apply Y3 | apply Y1 | apply Y2 | refine Y4 ?_ GE401.out)⟩
   rw [if_pos c40] at H
   have c40b0 : ((t404.length : Int) == 1) = true := beq_iff_eq.mpr c40
   have c40b1 : ((t404.length : Int) != 1) = false := bne_eq_false_iff_eq.mpr c40
   clear c40
   by_cases c41 : 0 < (t404.length : Int)
   rotate_left
   ·rw [if_neg c41] at H
    exact absurd H (by simp)
   rw [if_pos c41] at H
   have c41b0 : decide (0 < (t404.length : Int)) = true := decide_eq_true c41
   have c41b1 : decide (0 < t404.length) = true := decide_eq_true (by omega)
   clear c41
   by_cases c42 : ((rd_T29 t404 0).f0) = a0_0
   rotate_left
   ·rw [if_neg c42] at H
    have c42b0 : (((rd_T29 t404 0).f0) == a0_0) = false := beq_eq_false_iff_ne.mpr c42
    have c42b1 : (((rd_T29 t404 0).f0) != a0_0) = true := bne_iff_ne.mpr c42
    obtain rfl := Option.some.inj H
    have ⟨hcz57_0, hcz57_1, hcz57_2, hcz57_3, hcz57_4, hfz57_0, hfz57_1, hfz57_2, hfz57_3, hfz57_4⟩ := sq_box5 BK401.out
    go_wp2_with (first | (go_at_call 18; (with_reducible refine (truffleref06_All.calls kj20 a0_1 t404 t405 t406 _ A38.out).mono ?_); rintro e w58 ⟨v407, rfl, ho0, hb⟩; have n0_ := Y0 (Kd.R_lower ho0 (below_size (by repeat (with_reducible first | exact HB.out | apply Y3 | apply Y1 | apply Y2 | refine Y4 ?_ GE401.out)))); have n1_ := Y0 (blk_below (g := gb401) (o := .cells #[.int .i64 a0_0, .string a0_1, .int .i64 a0_2, .int .i64 a0_3, .slice A0_4 l0_4.length c0_4] 39 (0, 0)) (by (with_reducible repeat first | apply Y11 | apply Y13 | apply Y12); exact BK401.out) hb); have n2_ := Y0 (below_step (by repeat (with_reducible first | exact HB.out | apply Y3 | apply Y1 | apply Y2 | refine Y4 ?_ GE401.out)) hb); clear BK401; clear HB; have HO408 := n0_; have BK401 := n1_; have HB := n2_; clear n0_ n1_ n2_; (try clear hb); (try clear hb2); (try clear hk); (try clear hi); (try clear ho0); obtain ⟨Ao59, co59, eo59⟩ := Kd.R_slice HO408.out; subst eo59; have p409 : 0 ≤ (0 : Int) := (by omega); have q409 : 0 < (t404.length : Int) := of_decide_eq_true (by first | (with_reducible assumption) | assumption); obtain ⟨ad409, e409, hx409_0, hx409_1, hx409_2, hx409_3⟩ := at_T29 (Kd.R_reads' HO408.out).2.2 0 p409 q409; cases e409; have qi409 : (0 < t404.length) = True := eq_true (by omega); (try rw [show ((0 : Int)).toNat = 0 from rfl] at hx409_0); (try rw [show 0 * 4 = 0 from rfl] at hx409_0); (try rw [Addr.add_zero'] at hx409_0); (try rw [show ((0 : Int)).toNat = 0 from rfl] at hx409_1); (try rw [show 0 * 4 = 0 from rfl] at hx409_1); (try rw [Addr.add_zero'] at hx409_1); (try rw [show ((0 : Int)).toNat = 0 from rfl] at hx409_2); (try rw [show 0 * 4 = 0 from rfl] at hx409_2); (try rw [Addr.add_zero'] at hx409_2); (try rw [show ((0 : Int)).toNat = 0 from rfl] at hx409_3); (try rw [show 0 * 4 = 0 from rfl] at hx409_3); (try rw [Addr.add_zero'] at hx409_3); replace p409 := eq_true p409; replace q409 := eq_true q409; have ⟨hcz60_0, hcz60_1, hcz60_2, hcz60_3, hcz60_4, hfz60_0, hfz60_1, hfz60_2, hfz60_3, hfz60_4⟩ := sq_box5 BK401.out))
    repeat (go_quiet (fail); try go_wp2)
    go_ret
    exact ⟨by first | rfl | (simp [] <;> rfl) | (simp [*] <;> rfl), by repeat (with_reducible first | exact HB.out | apply Y3 | apply Y1 | apply Y2 | refine Y4 ?_ GE401.out)⟩
   rw [if_pos c42] at H
   have c42b0 : (((rd_T29 t404 0).f0) == a0_0) = true := beq_iff_eq.mpr c42
   have c42b1 : (((rd_T29 t404 0).f0) != a0_0) = false := bne_eq_false_iff_eq.mpr c42
   clear c42
   by_cases c43 : ((rd_T29 t404 0).f1).toList = a0_1.toList
   rotate_left
   ·rw [if_neg c43] at H
    have c43b0 : (((rd_T29 t404 0).f1).toList == a0_1.toList) = false := beq_eq_false_iff_ne.mpr c43
    have c43b1 : (((rd_T29 t404 0).f1).toList != a0_1.toList) = true := bne_iff_ne.mpr c43
    obtain rfl := Option.some.inj H
    have ⟨hcz53_0, hcz53_1, hcz53_2, hcz53_3, hcz53_4, hfz53_0, hfz53_1, hfz53_2, hfz53_3, hfz53_4⟩ := sq_box5 BK401.out
    go_wp2_with (first | (go_at_call 18; (with_reducible refine (truffleref06_All.calls kj20 a0_1 t404 t405 t406 _ A38.out).mono ?_); rintro e w54 ⟨v407, rfl, ho0, hb⟩; have n0_ := Y0 (Kd.R_lower ho0 (below_size (by repeat (with_reducible first | exact HB.out | apply Y3 | apply Y1 | apply Y2 | refine Y4 ?_ GE401.out)))); have n1_ := Y0 (blk_below (g := gb401) (o := .cells #[.int .i64 a0_0, .string a0_1, .int .i64 a0_2, .int .i64 a0_3, .slice A0_4 l0_4.length c0_4] 39 (0, 0)) (by (with_reducible repeat first | apply Y11 | apply Y13 | apply Y12); exact BK401.out) hb); have n2_ := Y0 (below_step (by repeat (with_reducible first | exact HB.out | apply Y3 | apply Y1 | apply Y2 | refine Y4 ?_ GE401.out)) hb); clear BK401; clear HB; have HO408 := n0_; have BK401 := n1_; have HB := n2_; clear n0_ n1_ n2_; (try clear hb); (try clear hb2); (try clear hk); (try clear hi); (try clear ho0); obtain ⟨Ao55, co55, eo55⟩ := Kd.R_slice HO408.out; subst eo55; have p409 : 0 ≤ (0 : Int) := (by omega); have q409 : 0 < (t404.length : Int) := of_decide_eq_true (by first | (with_reducible assumption) | assumption); obtain ⟨ad409, e409, hx409_0, hx409_1, hx409_2, hx409_3⟩ := at_T29 (Kd.R_reads' HO408.out).2.2 0 p409 q409; cases e409; have qi409 : (0 < t404.length) = True := eq_true (by omega); (try rw [show ((0 : Int)).toNat = 0 from rfl] at hx409_0); (try rw [show 0 * 4 = 0 from rfl] at hx409_0); (try rw [Addr.add_zero'] at hx409_0); (try rw [show ((0 : Int)).toNat = 0 from rfl] at hx409_1); (try rw [show 0 * 4 = 0 from rfl] at hx409_1); (try rw [Addr.add_zero'] at hx409_1); (try rw [show ((0 : Int)).toNat = 0 from rfl] at hx409_2); (try rw [show 0 * 4 = 0 from rfl] at hx409_2); (try rw [Addr.add_zero'] at hx409_2); (try rw [show ((0 : Int)).toNat = 0 from rfl] at hx409_3); (try rw [show 0 * 4 = 0 from rfl] at hx409_3); (try rw [Addr.add_zero'] at hx409_3); replace p409 := eq_true p409; replace q409 := eq_true q409; have ⟨hcz56_0, hcz56_1, hcz56_2, hcz56_3, hcz56_4, hfz56_0, hfz56_1, hfz56_2, hfz56_3, hfz56_4⟩ := sq_box5 BK401.out; have p410 : 0 ≤ (0 : Int) := (by omega); have q410 : 0 < (t404.length : Int) := of_decide_eq_true (by first | (with_reducible assumption) | assumption); obtain ⟨ad410, e410, hx410_0, hx410_1, hx410_2, hx410_3⟩ := at_T29 (Kd.R_reads' HO408.out).2.2 0 p410 q410; obtain rfl : ad409 = ad410 := (by injection e410); have qi410 : (0 < t404.length) = True := eq_true (by omega); (try rw [show ((0 : Int)).toNat = 0 from rfl] at hx410_0); (try rw [show 0 * 4 = 0 from rfl] at hx410_0); (try rw [Addr.add_zero'] at hx410_0); (try rw [show ((0 : Int)).toNat = 0 from rfl] at hx410_1); (try rw [show 0 * 4 = 0 from rfl] at hx410_1); (try rw [Addr.add_zero'] at hx410_1); (try rw [show ((0 : Int)).toNat = 0 from rfl] at hx410_2); (try rw [show 0 * 4 = 0 from rfl] at hx410_2); (try rw [Addr.add_zero'] at hx410_2); (try rw [show ((0 : Int)).toNat = 0 from rfl] at hx410_3); (try rw [show 0 * 4 = 0 from rfl] at hx410_3); (try rw [Addr.add_zero'] at hx410_3); replace p410 := eq_true p410; replace q410 := eq_true q410))
    repeat (go_quiet (fail); try go_wp2)
    go_ret
    exact ⟨by first | rfl | (simp [] <;> rfl) | (simp [*] <;> rfl), by repeat (with_reducible first | exact HB.out | apply Y3 | apply Y1 | apply Y2 | refine Y4 ?_ GE401.out)⟩
   rw [if_pos c43] at H
   have c43b0 : (((rd_T29 t404 0).f1).toList == a0_1.toList) = true := beq_iff_eq.mpr c43
   have c43b1 : (((rd_T29 t404 0).f1).toList != a0_1.toList) = false := bne_eq_false_iff_eq.mpr c43
   clear c43
   by_cases c44 : ((rd_T29 t404 0).f2) = a0_2
   rotate_left
   ·rw [if_neg c44] at H
    have c44b0 : (((rd_T29 t404 0).f2) == a0_2) = false := beq_eq_false_iff_ne.mpr c44
    have c44b1 : (((rd_T29 t404 0).f2) != a0_2) = true := bne_iff_ne.mpr c44
    obtain rfl := Option.some.inj H
    have ⟨hcz49_0, hcz49_1, hcz49_2, hcz49_3, hcz49_4, hfz49_0, hfz49_1, hfz49_2, hfz49_3, hfz49_4⟩ := sq_box5 BK401.out
    go_wp2_with (first | (go_at_call 18; (with_reducible refine (truffleref06_All.calls kj20 a0_1 t404 t405 t406 _ A38.out).mono ?_); rintro e w50 ⟨v407, rfl, ho0, hb⟩; have n0_ := Y0 (Kd.R_lower ho0 (below_size (by repeat (with_reducible first | exact HB.out | apply Y3 | apply Y1 | apply Y2 | refine Y4 ?_ GE401.out)))); have n1_ := Y0 (blk_below (g := gb401) (o := .cells #[.int .i64 a0_0, .string a0_1, .int .i64 a0_2, .int .i64 a0_3, .slice A0_4 l0_4.length c0_4] 39 (0, 0)) (by (with_reducible repeat first | apply Y11 | apply Y13 | apply Y12); exact BK401.out) hb); have n2_ := Y0 (below_step (by repeat (with_reducible first | exact HB.out | apply Y3 | apply Y1 | apply Y2 | refine Y4 ?_ GE401.out)) hb); clear BK401; clear HB; have HO408 := n0_; have BK401 := n1_; have HB := n2_; clear n0_ n1_ n2_; (try clear hb); (try clear hb2); (try clear hk); (try clear hi); (try clear ho0); obtain ⟨Ao51, co51, eo51⟩ := Kd.R_slice HO408.out; subst eo51; have p409 : 0 ≤ (0 : Int) := (by omega); have q409 : 0 < (t404.length : Int) := of_decide_eq_true (by first | (with_reducible assumption) | assumption); obtain ⟨ad409, e409, hx409_0, hx409_1, hx409_2, hx409_3⟩ := at_T29 (Kd.R_reads' HO408.out).2.2 0 p409 q409; cases e409; have qi409 : (0 < t404.length) = True := eq_true (by omega); (try rw [show ((0 : Int)).toNat = 0 from rfl] at hx409_0); (try rw [show 0 * 4 = 0 from rfl] at hx409_0); (try rw [Addr.add_zero'] at hx409_0); (try rw [show ((0 : Int)).toNat = 0 from rfl] at hx409_1); (try rw [show 0 * 4 = 0 from rfl] at hx409_1); (try rw [Addr.add_zero'] at hx409_1); (try rw [show ((0 : Int)).toNat = 0 from rfl] at hx409_2); (try rw [show 0 * 4 = 0 from rfl] at hx409_2); (try rw [Addr.add_zero'] at hx409_2); (try rw [show ((0 : Int)).toNat = 0 from rfl] at hx409_3); (try rw [show 0 * 4 = 0 from rfl] at hx409_3); (try rw [Addr.add_zero'] at hx409_3); replace p409 := eq_true p409; replace q409 := eq_true q409; have ⟨hcz52_0, hcz52_1, hcz52_2, hcz52_3, hcz52_4, hfz52_0, hfz52_1, hfz52_2, hfz52_3, hfz52_4⟩ := sq_box5 BK401.out; have p410 : 0 ≤ (0 : Int) := (by omega); have q410 : 0 < (t404.length : Int) := of_decide_eq_true (by first | (with_reducible assumption) | assumption); obtain ⟨ad410, e410, hx410_0, hx410_1, hx410_2, hx410_3⟩ := at_T29 (Kd.R_reads' HO408.out).2.2 0 p410 q410; obtain rfl : ad409 = ad410 := (by injection e410); have qi410 : (0 < t404.length) = True := eq_true (by omega); (try rw [show ((0 : Int)).toNat = 0 from rfl] at hx410_0); (try rw [show 0 * 4 = 0 from rfl] at hx410_0); (try rw [Addr.add_zero'] at hx410_0); (try rw [show ((0 : Int)).toNat = 0 from rfl] at hx410_1); (try rw [show 0 * 4 = 0 from rfl] at hx410_1); (try rw [Addr.add_zero'] at hx410_1); (try rw [show ((0 : Int)).toNat = 0 from rfl] at hx410_2); (try rw [show 0 * 4 = 0 from rfl] at hx410_2); (try rw [Addr.add_zero'] at hx410_2); (try rw [show ((0 : Int)).toNat = 0 from rfl] at hx410_3); (try rw [show 0 * 4 = 0 from rfl] at hx410_3); (try rw [Addr.add_zero'] at hx410_3); replace p410 := eq_true p410; replace q410 := eq_true q410; have p411 : 0 ≤ (0 : Int) := (by omega); have q411 : 0 < (t404.length : Int) := of_decide_eq_true (by first | (with_reducible assumption) | assumption); obtain ⟨ad411, e411, hx411_0, hx411_1, hx411_2, hx411_3⟩ := at_T29 (Kd.R_reads' HO408.out).2.2 0 p411 q411; obtain rfl : ad409 = ad411 := (by injection e411); have qi411 : (0 < t404.length) = True := eq_true (by omega); (try rw [show ((0 : Int)).toNat = 0 from rfl] at hx411_0); (try rw [show 0 * 4 = 0 from rfl] at hx411_0); (try rw [Addr.add_zero'] at hx411_0); (try rw [show ((0 : Int)).toNat = 0 from rfl] at hx411_1); (try rw [show 0 * 4 = 0 from rfl] at hx411_1); (try rw [Addr.add_zero'] at hx411_1); (try rw [show ((0 : Int)).toNat = 0 from rfl] at hx411_2); (try rw [show 0 * 4 = 0 from rfl] at hx411_2); (try rw [Addr.add_zero'] at hx411_2); (try rw [show ((0 : Int)).toNat = 0 from rfl] at hx411_3); (try rw [show 0 * 4 = 0 from rfl] at hx411_3); (try rw [Addr.add_zero'] at hx411_3); replace p411 := eq_true p411; replace q411 := eq_true q411))
    repeat (go_quiet (fail); try go_wp2)
    go_ret
    exact ⟨by first | rfl | (simp [] <;> rfl) | (simp [*] <;> rfl), by repeat (with_reducible first | exact HB.out | apply Y3 | apply Y1 | apply Y2 | refine Y4 ?_ GE401.out)⟩
   rw [if_pos c44] at H
   have c44b0 : (((rd_T29 t404 0).f2) == a0_2) = true := beq_iff_eq.mpr c44
   have c44b1 : (((rd_T29 t404 0).f2) != a0_2) = false := bne_eq_false_iff_eq.mpr c44
   clear c44
   obtain rfl := Option.some.inj H
   have ⟨hcz45_0, hcz45_1, hcz45_2, hcz45_3, hcz45_4, hfz45_0, hfz45_1, hfz45_2, hfz45_3, hfz45_4⟩ := sq_box5 BK401.out
   go_wp2_with (first | (go_at_call 18; (with_reducible refine (truffleref06_All.calls kj20 a0_1 t404 t405 t406 _ A38.out).mono ?_); rintro e w46 ⟨v407, rfl, ho0, hb⟩; have n0_ := Y0 (Kd.R_lower ho0 (below_size (by repeat (with_reducible first | exact HB.out | apply Y3 | apply Y1 | apply Y2 | refine Y4 ?_ GE401.out)))); have n1_ := Y0 (blk_below (g := gb401) (o := .cells #[.int .i64 a0_0, .string a0_1, .int .i64 a0_2, .int .i64 a0_3, .slice A0_4 l0_4.length c0_4] 39 (0, 0)) (by (with_reducible repeat first | apply Y11 | apply Y13 | apply Y12); exact BK401.out) hb); have n2_ := Y0 (below_step (by repeat (with_reducible first | exact HB.out | apply Y3 | apply Y1 | apply Y2 | refine Y4 ?_ GE401.out)) hb); clear BK401; clear HB; have HO408 := n0_; have BK401 := n1_; have HB := n2_; clear n0_ n1_ n2_; (try clear hb); (try clear hb2); (try clear hk); (try clear hi); (try clear ho0); obtain ⟨Ao47, co47, eo47⟩ := Kd.R_slice HO408.out; subst eo47; have p409 : 0 ≤ (0 : Int) := (by omega); have q409 : 0 < (t404.length : Int) := of_decide_eq_true (by first | (with_reducible assumption) | assumption); obtain ⟨ad409, e409, hx409_0, hx409_1, hx409_2, hx409_3⟩ := at_T29 (Kd.R_reads' HO408.out).2.2 0 p409 q409; cases e409; have qi409 : (0 < t404.length) = True := eq_true (by omega); (try rw [show ((0 : Int)).toNat = 0 from rfl] at hx409_0); (try rw [show 0 * 4 = 0 from rfl] at hx409_0); (try rw [Addr.add_zero'] at hx409_0); (try rw [show ((0 : Int)).toNat = 0 from rfl] at hx409_1); (try rw [show 0 * 4 = 0 from rfl] at hx409_1); (try rw [Addr.add_zero'] at hx409_1); (try rw [show ((0 : Int)).toNat = 0 from rfl] at hx409_2); (try rw [show 0 * 4 = 0 from rfl] at hx409_2); (try rw [Addr.add_zero'] at hx409_2); (try rw [show ((0 : Int)).toNat = 0 from rfl] at hx409_3); (try rw [show 0 * 4 = 0 from rfl] at hx409_3); (try rw [Addr.add_zero'] at hx409_3); replace p409 := eq_true p409; replace q409 := eq_true q409; have ⟨hcz48_0, hcz48_1, hcz48_2, hcz48_3, hcz48_4, hfz48_0, hfz48_1, hfz48_2, hfz48_3, hfz48_4⟩ := sq_box5 BK401.out; have p410 : 0 ≤ (0 : Int) := (by omega); have q410 : 0 < (t404.length : Int) := of_decide_eq_true (by first | (with_reducible assumption) | assumption); obtain ⟨ad410, e410, hx410_0, hx410_1, hx410_2, hx410_3⟩ := at_T29 (Kd.R_reads' HO408.out).2.2 0 p410 q410; obtain rfl : ad409 = ad410 := (by injection e410); have qi410 : (0 < t404.length) = True := eq_true (by omega); (try rw [show ((0 : Int)).toNat = 0 from rfl] at hx410_0); (try rw [show 0 * 4 = 0 from rfl] at hx410_0); (try rw [Addr.add_zero'] at hx410_0); (try rw [show ((0 : Int)).toNat = 0 from rfl] at hx410_1); (try rw [show 0 * 4 = 0 from rfl] at hx410_1); (try rw [Addr.add_zero'] at hx410_1); (try rw [show ((0 : Int)).toNat = 0 from rfl] at hx410_2); (try rw [show 0 * 4 = 0 from rfl] at hx410_2); (try rw [Addr.add_zero'] at hx410_2); (try rw [show ((0 : Int)).toNat = 0 from rfl] at hx410_3); (try rw [show 0 * 4 = 0 from rfl] at hx410_3); (try rw [Addr.add_zero'] at hx410_3); replace p410 := eq_true p410; replace q410 := eq_true q410; have p411 : 0 ≤ (0 : Int) := (by omega); have q411 : 0 < (t404.length : Int) := of_decide_eq_true (by first | (with_reducible assumption) | assumption); obtain ⟨ad411, e411, hx411_0, hx411_1, hx411_2, hx411_3⟩ := at_T29 (Kd.R_reads' HO408.out).2.2 0 p411 q411; obtain rfl : ad409 = ad411 := (by injection e411); have qi411 : (0 < t404.length) = True := eq_true (by omega); (try rw [show ((0 : Int)).toNat = 0 from rfl] at hx411_0); (try rw [show 0 * 4 = 0 from rfl] at hx411_0); (try rw [Addr.add_zero'] at hx411_0); (try rw [show ((0 : Int)).toNat = 0 from rfl] at hx411_1); (try rw [show 0 * 4 = 0 from rfl] at hx411_1); (try rw [Addr.add_zero'] at hx411_1); (try rw [show ((0 : Int)).toNat = 0 from rfl] at hx411_2); (try rw [show 0 * 4 = 0 from rfl] at hx411_2); (try rw [Addr.add_zero'] at hx411_2); (try rw [show ((0 : Int)).toNat = 0 from rfl] at hx411_3); (try rw [show 0 * 4 = 0 from rfl] at hx411_3); (try rw [Addr.add_zero'] at hx411_3); replace p411 := eq_true p411; replace q411 := eq_true q411; have p412 : 0 ≤ (0 : Int) := (by omega); have q412 : 0 < (t404.length : Int) := of_decide_eq_true (by first | (with_reducible assumption) | assumption); obtain ⟨ad412, e412, hx412_0, hx412_1, hx412_2, hx412_3⟩ := at_T29 (Kd.R_reads' HO408.out).2.2 0 p412 q412; obtain rfl : ad409 = ad412 := (by injection e412); have qi412 : (0 < t404.length) = True := eq_true (by omega); (try rw [show ((0 : Int)).toNat = 0 from rfl] at hx412_0); (try rw [show 0 * 4 = 0 from rfl] at hx412_0); (try rw [Addr.add_zero'] at hx412_0); (try rw [show ((0 : Int)).toNat = 0 from rfl] at hx412_1); (try rw [show 0 * 4 = 0 from rfl] at hx412_1); (try rw [Addr.add_zero'] at hx412_1); (try rw [show ((0 : Int)).toNat = 0 from rfl] at hx412_2); (try rw [show 0 * 4 = 0 from rfl] at hx412_2); (try rw [Addr.add_zero'] at hx412_2); (try rw [show ((0 : Int)).toNat = 0 from rfl] at hx412_3); (try rw [show 0 * 4 = 0 from rfl] at hx412_3); (try rw [Addr.add_zero'] at hx412_3); replace p412 := eq_true p412; replace q412 := eq_true q412))
   repeat (go_quiet (fail); try go_wp2)
   go_ret
   exact ⟨by first | rfl | (simp [] <;> rfl) | (simp [*] <;> rfl), by repeat (with_reducible first | exact HB.out | apply Y3 | apply Y1 | apply Y2 | refine Y4 ?_ GE401.out)⟩
def truffleref14_May.f (k : Nat) (a0_0 : Int) (a0_1 : ByteArray) (a0_2 : Int) (a0_3 : Int) (l0_4 : List (S39)) : Option (Bool) := (truffleref14_may.f k a0_0 a0_1 a0_2 a0_3 l0_4 0).bind fun t414 => (some t414)
set_option maxHeartbeats 8000000 in
set_option maxRecDepth 100000 in
theorem truffleref14_May.calls (k : Nat) (a0_0 : Int) (a0_1 : ByteArray) (a0_2 : Int) (a0_3 : Int) (A0_4 : Option Addr) (c0_4 : Nat) (l0_4 : List (S39)) (r : Bool) (w : World) (hr0_4 : Kd.C k39 w A0_4 l0_4.length l0_4) (hc0_4 : l0_4.length ≤ c0_4) (h : truffleref14_May.f k a0_0 a0_1 a0_2 a0_3 l0_4 = some r) :
  Calls Tryd.prog 29 #[.agg #[.int .i64 a0_0, .string a0_1, .int .i64 a0_2, .int .i64 a0_3, .slice A0_4 l0_4.length c0_4]] w fun e w' => e = .returned (.bool r) ∧ Below w.heap.size w w' := by
 have hu39 := Tryd.underlying39
 have HR0_4 := Y0 hr0_4
 have HC0_4 := Y0 hc0_4
 clear hr0_4 hc0_4
 have HB := Y0 (Below.refl w.heap.size w)
 have H : ((truffleref14_may.f k a0_0 a0_1 a0_2 a0_3 l0_4 0).bind fun t414 => (some t414)) = some r := h
 clear h
 replace H := Y17.mp H
 obtain ⟨t414, A20, H⟩ := H
 try dsimp only at H
 have A2 := Y0 A20
 clear A20
 obtain rfl := Option.some.inj H
 go_enter Tryd.func29, Tryd.ntmps29
 go_wp2_with (first | ((with_reducible refine gate_dst (N := 1) rfl ?_); refine box_event ?hg (N := 1) ?hd (cs := #[.int .i64 a0_0, .string a0_1, .int .i64 a0_2, .int .i64 a0_3, .slice A0_4 l0_4.length c0_4]) (t := 39) ?hr ?_; (case hd => rfl); (case hg => rfl); (case hr => first | (go_simp; done) | (go_simp; rfl)); intro gb413 hg w3 hbox hb; have n0_ := Y0 (below_step (by repeat (with_reducible first | exact HB.out | apply Y3 | apply Y1 | apply Y2)) hb); have n1_ := Y0 (hbox); have n2_ := Y0 ((by rw [hg]; exact (below_size (by repeat (with_reducible first | exact HB.out | apply Y3 | apply Y1 | apply Y2))) : w.heap.size ≤ gb413)); have n3_ := Y0 ((by rw [hg]; exact (below_size (by repeat (with_reducible first | exact HB.out | apply Y3 | apply Y1 | apply Y2))) : w.heap.size ≤ gb413)); clear HB; have HB := n0_; have BK413 := n1_; have GW413 := n2_; have GE413 := n3_; clear n0_ n1_ n2_ n3_; clear hb hbox hg; have ⟨hcz4_0, hcz4_1, hcz4_2, hcz4_3, hcz4_4, hfz4_0, hfz4_1, hfz4_2, hfz4_3, hfz4_4⟩ := sq_box5 BK413.out) | ((with_reducible refine gate_callee (f := 50) rfl ?_); refine goesL_ (some 4) rfl rfl Tryd.func50 (by kernel_rfl) rfl #[.agg #[.int .i64 a0_0, .string a0_1, .int .i64 a0_2, .int .i64 a0_3, .slice A0_4 l0_4.length c0_4], .int .i64 0] rfl (by (try simp only [List.map_toArray, List.map_cons, List.map_nil]); first | done | rfl | (simp only [List.length_drop, List.length_take]; rfl)) ?_; (with_reducible refine (truffleref14_may.calls k a0_0 a0_1 a0_2 a0_3 _ _ l0_4 0 t414 _ ?side1 ?side2 A2.out).mono ?_); (case side1 => repeat (first | exact (Kd.C_below HR0_4.out HB.out) | (with_reducible refine Kd.C_alloc ?_ _) | (with_reducible refine Kd.C_drewN ?_ _) | (with_reducible refine Kd.C_drew ?_))); (case side2 => exact HC0_4.out); rintro e w5 ⟨rfl, hb⟩; refine ⟨_, rfl, ?_⟩; have n0_ := Y0 (blk_below (g := gb413) (o := .cells #[.int .i64 a0_0, .string a0_1, .int .i64 a0_2, .int .i64 a0_3, .slice A0_4 l0_4.length c0_4] 39 (0, 0)) (by (with_reducible repeat first | apply Y11 | apply Y13 | apply Y12); exact BK413.out) hb); have n1_ := Y0 (below_step (by repeat (with_reducible first | exact HB.out | apply Y3 | apply Y1 | apply Y2 | refine Y4 ?_ GE413.out)) hb); clear BK413; clear HB; have BK413 := n0_; have HB := n1_; clear n0_ n1_; (try clear hb); (try clear hb2); (try clear hk); (try clear hi)))
 go_ret
 exact ⟨by first | rfl | (simp [] <;> rfl) | (simp [*] <;> rfl), by repeat (with_reducible first | exact HB.out | apply Y3 | apply Y1 | apply Y2 | refine Y4 ?_ GE413.out)⟩
mutual
def truffleref06_Quote.l0 : Nat → ByteArray → List Int → ByteArray → Int → Option (ByteArray)
 | 0, _, _, _, _ => none
 | k + 1, x0, x3, x4, x5 => if x5 < (x0.size : Int) then (if 0 ≤ x5 then (if (bt x0 x5) = 10 then ((some (([92, 110] : List Int) : List Int)).bind fun y253 => (if x3.length + y253.length < 140737488355328 then (truffleref06_Quote.l0 k x0 (x3 ++ y253) x4 (wrap64 (x5 + 1))) else (none))) else (if (bt x0 x5) < 32 then (truffleref06_Quote.j1 k x0 x3 x4 x5 (bt x0 x5) true) else (truffleref06_Quote.j1 k x0 x3 x4 x5 (bt x0 x5) (decide ((bt x0 x5) > 126))))) else (none)) else (if x3.length < 140737488355328 then (some (strOfNums (x3 ++ [34]))) else (none))
def truffleref06_Quote.j1 : Nat → ByteArray → List Int → ByteArray → Int → Int → Bool → Option (ByteArray)
 | 0, _, _, _, _, _, _ => none
 | k + 1, x0, x3, x4, x5, x6, x27 => if x27 = true then (if 0 ≤ ((Int.tdiv x6 16) % 256) then (if ((Int.tdiv x6 16) % 256) < (x4.size : Int) then (if 0 ≤ (Int.tmod x6 16) then (if (Int.tmod x6 16) < (x4.size : Int) then ((some (([92, 120, bt x4 ((Int.tdiv x6 16) % 256), bt x4 (Int.tmod x6 16)] : List Int) : List Int)).bind fun y259 => (if x3.length + y259.length < 140737488355328 then (truffleref06_Quote.l0 k x0 (x3 ++ y259) x4 (wrap64 (x5 + 1))) else (none))) else (none)) else (none)) else (none)) else (none)) else (if x6 = 34 then ((some (([92, x6] : List Int) : List Int)).bind fun y265 => (if x3.length + y265.length < 140737488355328 then (truffleref06_Quote.l0 k x0 (x3 ++ y265) x4 (wrap64 (x5 + 1))) else (none))) else (if x6 = 92 then ((some (([92, x6] : List Int) : List Int)).bind fun y271 => (if x3.length + y271.length < 140737488355328 then (truffleref06_Quote.l0 k x0 (x3 ++ y271) x4 (wrap64 (x5 + 1))) else (none))) else (if x3.length < 140737488355328 then (truffleref06_Quote.l0 k x0 (x3 ++ [x6]) x4 (wrap64 (x5 + 1))) else (none))))
end
def truffleref06_Quote.f (k : Nat) (a0 : ByteArray) : Option (ByteArray) := truffleref06_Quote.l0 k a0 (([34] : List Int)) (⟨#[48, 49, 50, 51, 52, 53, 54, 55, 56, 57, 97, 98, 99, 100, 101, 102]⟩ : ByteArray) 0
def truffleref06_Quote.T10 : Bool × List (List Nat × List Nat) := (true, [([], []), ([], []), ([], []), ([2], [2]), ([1, 3], [1, 3]), ([], []), ([], []), ([6], [6]), ([5, 7], [5, 7]), ([4, 8], [4, 8]), ([0, 9], [0, 9]), ([10, 10, 0, 1, 2, 3, 4, 5, 6, 7, 8, 9, 10], [0, 10])])
def truffleref06_Quote.B10 : List Nat := [0, 0, 0, 4, 14, 0, 0, 64, 224, 510, 1023, 2047]
theorem truffleref06_Quote.tab10 : rtab .any (opsOf Tryd.f20 10) = truffleref06_Quote.T10 := by kernel_rfl
theorem truffleref06_Quote.bits10 : waitsOk truffleref06_Quote.T10.2 truffleref06_Quote.B10 = true := by kernel_rfl
set_option maxHeartbeats 8000000 in
set_option maxRecDepth 100000 in
theorem truffleref06_Quote.calls (k : Nat) (a0 : ByteArray) (r : ByteArray) (w : World) (h : truffleref06_Quote.f k a0 = some r) :
  Calls Tryd.prog 20 #[.string a0] w fun e w' => e = .returned (.string r) ∧ Below w.heap.size w w' := by
 have HB := Y0 (Below.refl w.heap.size w)
 have H : (truffleref06_Quote.l0 k a0 (([34] : List Int)) (⟨#[48, 49, 50, 51, 52, 53, 54, 55, 56, 57, 97, 98, 99, 100, 101, 102]⟩ : ByteArray) 0) = some r := h
 clear h
 obtain ⟨y247, hy247⟩ : ∃ y_ : List Int, y_ = (([34] : List Int)) := ⟨_, rfl⟩
 replace H : (truffleref06_Quote.l0 k a0 y247 (⟨#[48, 49, 50, 51, 52, 53, 54, 55, 56, 57, 97, 98, 99, 100, 101, 102]⟩ : ByteArray) 0) = some r := by first | (rw [hy247]; with_reducible exact H) | (have H2_ := (Option.bind_some _ _).symm.trans H; rw [hy247]; with_reducible exact H2_) | (have H2_ := (Option.bind_some _ _).symm.trans H; with_reducible exact H2_) | with_reducible exact H | (rw [hy247]; exact H) | exact H
 have Ny247 := Y0 hy247
 clear hy247
 have H' := Y0 H
 clear H
 go_enter Tryd.func20, Tryd.ntmps20
 go_wp2_with (first | ((with_reducible refine gate_dst (N := 7) rfl ?_); refine Kd.R_lit (Kd.int .u8) _ 5 ?hg (N := 7) ?hd (xs := ([34] : List Int)) (inner := [.int .u8 34]) (ok := fun _ => True) (okp := fun _ => True) ?hr ?hp (fun _ hk => hk) trivial (Below.refl _ _) (Nat.le_refl _) (by simp) ?_; (case hd => rfl); (case hg => rfl); (case hr => first | (go_simp; done) | (go_simp; rfl)); (case hp => exact (Reps.one (show Kd.M (Kd.int .u8) _ _ _ 34 [.int .u8 34] from rfl) (Reps.none _ _))); intro v248 w2 ho3 hb hg_ hnew_; clear hg_ hnew_; (first | rw [← Ny247.out] at ho3 | (simp only [Int.reduceToNat] at ho3; rw [← Ny247.out] at ho3)); have n0_ := Y0 (Kd.R_lower ho3 (below_size (by repeat (with_reducible first | exact HB.out | apply Y3 | apply Y1 | apply Y2)))); have n1_ := Y0 (below_step (by repeat (with_reducible first | exact HB.out | apply Y3 | apply Y1 | apply Y2)) hb); clear HB; have HO249 := n0_; have HB := n1_; clear n0_ n1_; clear hb ho3))
 go_loopg [3, 5] k (fun kq v3 v5 w' => ∃ (x3_1 : List Int) (x5_1 : Int), v5 = .int .i64 x5_1 ∧ Aside0 (truffleref06_Quote.l0 kq a0 x3_1 (⟨#[48, 49, 50, 51, 52, 53, 54, 55, 56, 57, 97, 98, 99, 100, 101, 102]⟩ : ByteArray) x5_1 = some r) ∧ Aside0 (kq ≤ k) ∧ Aside0 (Kd.R (Kd.int .u8) 5 w' w.heap.size (fun _ => True) v3 x3_1) ∧ Aside0 (Below w.heap.size w w'))
 case atStart => exact ⟨(y247), (0), (by first | rfl | (simp; done) | (simp [*]; done)), H', ⟨Nat.le_refl _⟩, ⟨by (with_reducible repeat (first | apply Kd.R_alloc | apply Y6 | apply Y7)); exact HO249.out⟩, ⟨by repeat (with_reducible first | exact HB.out | apply Y3 | apply Y1 | apply Y2)⟩⟩
 case round =>
  clear H'
  obtain ⟨x3_1, x5_1, rfl, HA, HK1, HO_3, HB⟩ := hrel
  cases gk with
  | zero => exact absurd HA.out (by simp [truffleref06_Quote.l0])
  | succ k1 =>
   have H := HA.out
   clear HA
   simp only [truffleref06_Quote.l0] at H
   by_cases c4 : x5_1 < (a0.size : Int)
   rotate_left
   ·rw [if_neg c4] at H
    have c4b0 : decide (x5_1 < (a0.size : Int)) = false := decide_eq_false c4
    clear c4
    by_cases c44 : x3_1.length < 140737488355328
    rotate_left
    ·rw [if_neg c44] at H
     exact absurd H (by simp)
    rw [if_pos c44] at H
    have LMc44 := Y0 c44
    clear c44
    obtain ⟨y250, hy250⟩ : ∃ y_ : List Int, y_ = (x3_1 ++ [34]) := ⟨_, rfl⟩
    replace H : (some (strOfNums y250)) = some r := by first | (rw [hy250]; with_reducible exact H) | (have H2_ := (Option.bind_some _ _).symm.trans H; rw [hy250]; with_reducible exact H2_) | (have H2_ := (Option.bind_some _ _).symm.trans H; with_reducible exact H2_) | with_reducible exact H | (rw [hy250]; exact H) | exact H
    have Ny250 := Y0 hy250
    clear hy250
    obtain rfl := Option.some.inj H
    go_wp2_with (first | ((with_reducible refine gate_builtin (b := .append) (xs := #[.tmp 53, .tmp 54]) rfl ?_); at_builtin; refine Kd.R_append (Kd.int .u8) (w0 := w) w.heap.size rfl (.tmp 53) (.tmp 54) 63 5 (.int .u8 0) 1 rfl Tryd.underlying63 info5 rfl (by decide) (by omega) u3 x3_1 34 [.int .u8 34] (fun _ => True) (fun _ => False) rfl rfl ?aP (fun _ hk => hk.elim) ?aF ?aO ?aB ?aS ?aL ?_; (case aP => exact rfl); (case aB => exact (by repeat (with_reducible first | exact HB.out | apply Y3 | apply Y1 | apply Y2))); (case aF => exact (fun _ _ => trivial)); (case aO => exact (by (with_reducible repeat (first | apply Kd.R_alloc | apply Y6 | apply Y7)); exact HO_3.out)); (case aS => exact (below_size (by repeat (with_reducible first | exact HB.out | apply Y3 | apply Y1 | apply Y2)))); (case aL => have := LMc44.out; omega); intro v251 w45 ho hb hg hat; rw [← Ny250.out] at ho; have n0_ := Y0 (hb); have n1_ := Y0 (ho); clear HB; clear HO_3; have HB := n0_; have HO252 := n1_; clear n0_ n1_; clear ho hb hg hat; have hcv46 := own_string (P := Tryd.prog) Tryd.underlying63 Tryd.underlying5 Tryd.underlying9 (Kd.own_of_R HO252.out)))
    go_ret
    exact ⟨by first | rfl | (simp [] <;> rfl) | (simp [*] <;> rfl), by repeat (with_reducible first | exact HB.out | apply Y3 | apply Y1 | apply Y2)⟩
   rw [if_pos c4] at H
   have c4b0 : decide (x5_1 < (a0.size : Int)) = true := decide_eq_true c4
   clear c4
   by_cases c5 : 0 ≤ x5_1
   rotate_left
   ·rw [if_neg c5] at H
    exact absurd H (by simp)
   rw [if_pos c5] at H
   have c5b0 : decide (0 ≤ x5_1) = true := decide_eq_true c5
   clear c5
   by_cases c7 : (bt a0 x5_1) = 10
   ·rw [if_pos c7] at H
    have c7b0 : ((bt a0 x5_1) == 10) = true := beq_iff_eq.mpr c7
    have c7b1 : ((bt a0 x5_1) != 10) = false := bne_eq_false_iff_eq.mpr c7
    clear c7
    obtain ⟨y253, hy253⟩ : ∃ y_ : List Int, y_ = (([92, 110] : List Int)) := ⟨_, rfl⟩
    replace H : (if x3_1.length + y253.length < 140737488355328 then (truffleref06_Quote.l0 k1 a0 (x3_1 ++ y253) (⟨#[48, 49, 50, 51, 52, 53, 54, 55, 56, 57, 97, 98, 99, 100, 101, 102]⟩ : ByteArray) (wrap64 (x5_1 + 1))) else (none)) = some r := by first | (rw [hy253]; with_reducible exact H) | (have H2_ := (Option.bind_some _ _).symm.trans H; rw [hy253]; with_reducible exact H2_) | (have H2_ := (Option.bind_some _ _).symm.trans H; with_reducible exact H2_) | with_reducible exact H | (rw [hy253]; exact H) | exact H
    have Ny253 := Y0 hy253
    clear hy253
    by_cases c8 : x3_1.length + y253.length < 140737488355328
    rotate_left
    ·rw [if_neg c8] at H
     exact absurd H (by simp)
    rw [if_pos c8] at H
    have LMc8 := Y0 c8
    clear c8
    obtain ⟨y256, hy256⟩ : ∃ y_ : List Int, y_ = (x3_1 ++ y253) := ⟨_, rfl⟩
    replace H : (truffleref06_Quote.l0 k1 a0 y256 (⟨#[48, 49, 50, 51, 52, 53, 54, 55, 56, 57, 97, 98, 99, 100, 101, 102]⟩ : ByteArray) (wrap64 (x5_1 + 1))) = some r := by first | (rw [hy256]; with_reducible exact H) | (have H2_ := (Option.bind_some _ _).symm.trans H; rw [hy256]; with_reducible exact H2_) | (have H2_ := (Option.bind_some _ _).symm.trans H; with_reducible exact H2_) | with_reducible exact H | (rw [hy256]; exact H) | exact H
    have Ny256 := Y0 hy256
    clear hy256
    have H' := Y0 H
    clear H
    have p6 : 0 ≤ (x5_1 : Int) := of_decide_eq_true (by first | (with_reducible assumption) | assumption)
    have q6 : x5_1 < (a0.size : Int) := of_decide_eq_true (by first | (with_reducible assumption) | assumption)
    have hx6 := bt_at a0 x5_1
    replace p6 := eq_true p6
    replace q6 := eq_true q6
    go_wp2_with (first | ((with_reducible refine gate_dst (N := 20) rfl ?_); refine Kd.R_lit (Kd.int .u8) _ 5 ?hg (N := 20) ?hd (xs := ([92, 110] : List Int)) (inner := [.int .u8 92, .int .u8 110]) (ok := fun _ => True) (okp := fun _ => True) ?hr ?hp (fun _ hk => hk) trivial (Below.refl _ _) (Nat.le_refl _) (by simp) ?_; (case hd => rfl); (case hg => rfl); (case hr => first | (go_simp; done) | (go_simp; rfl)); (case hp => exact (Reps.one (show Kd.M (Kd.int .u8) _ _ _ 92 [.int .u8 92] from rfl) (Reps.one (show Kd.M (Kd.int .u8) _ _ _ 110 [.int .u8 110] from rfl) (Reps.none _ _)))); intro v254 w9 ho10 hb hg_ hnew_; clear hg_ hnew_; (first | rw [← Ny253.out] at ho10 | (simp only [Int.reduceToNat] at ho10; rw [← Ny253.out] at ho10)); have n0_ := Y0 (Kd.R_elder' (by (with_reducible repeat (first | apply Kd.R_alloc | apply Y6 | apply Y7)); exact HO_3.out) (Kd.R_base ho10) hb); have n1_ := Y0 (Kd.R_lower (Kd.R_new' ho10 (Kd.R_lt (by (with_reducible repeat (first | apply Kd.R_alloc | apply Y6 | apply Y7)); exact HO_3.out))) (below_size (by repeat (with_reducible first | exact HB.out | apply Y3 | apply Y1 | apply Y2)))); have n2_ := Y0 (below_step (by repeat (with_reducible first | exact HB.out | apply Y3 | apply Y1 | apply Y2)) hb); clear HO_3; clear HB; have HO_3 := n0_; have HO255 := n1_; have HB := n2_; clear n0_ n1_ n2_; clear hb ho10; obtain ⟨Ao12, co12, eo12⟩ := Kd.R_slice HO255.out; subst eo12) | ((with_reducible refine gate_builtin (b := .append) (xs := #[.tmp 19, .tmp 20]) rfl ?_); at_builtin; refine Kd.R_append_rows (Kd.int .u8) (w0 := w) w.heap.size rfl (.tmp 19) (.tmp 20) 63 5 (.int .u8 0) 1 rfl Tryd.underlying63 info5 rfl (by decide) (by omega) u3 x3_1 y253 _ _ _ (fun k_ => some k_ ≠ (.slice Ao12 y253.length co12 : Value).ownBlock) (fun _ => False) rfl rfl ?aO ?aR (fun _ _ h => h) (fun _ h => h.elim) ?aF ?aB ?aS ?aL ?_; (case aR => repeat (first | exact (Kd.R_reads' HO255.out).2.2 | (with_reducible refine Kd.C_alloc ?_ _) | (with_reducible refine Kd.C_drewN ?_ _) | (with_reducible refine Kd.C_drew ?_))); (case aB => exact (by repeat (with_reducible first | exact HB.out | apply Y3 | apply Y1 | apply Y2))); (case aF => exact (fun k_ hk => Kd.fresh' (Kd.R_lt (by (with_reducible repeat (first | apply Kd.R_alloc | apply Y6 | apply Y7)); exact HO255.out)) k_ hk)); (case aO => exact (by (with_reducible repeat (first | apply Kd.R_alloc | apply Y6 | apply Y7)); exact Kd.R_mono HO_3.out (fun _ hk => hk.2))); (case aS => exact (below_size (by repeat (with_reducible first | exact HB.out | apply Y3 | apply Y1 | apply Y2)))); (case aL => have := LMc8.out; omega); intro v257 w11 ho hb hg hat; rw [← Ny256.out] at ho; have n0_ := Y0 (Kd.R_after (ok := (fun _ => True)) (by (with_reducible repeat (first | apply Kd.R_alloc | apply Y6 | apply Y7)); exact HO255.out) hg hat); have n1_ := Y0 (hb); have n2_ := Y0 (ho); clear HO255; clear HB; clear HO_3; have HO255 := n0_; have HB := n1_; have HO258 := n2_; clear n0_ n1_ n2_; clear ho hb hg hat))
    go_roundg k1
    case measure => have := HK1.out; omega
    case rel => exact ⟨(y256), (wrap64 (x5_1 + 1)), (by first | rfl | (simp; done) | (simp [*]; done)), H', ⟨by have := HK1.out; omega⟩, ⟨by (with_reducible repeat (first | apply Kd.R_alloc | apply Y6 | apply Y7)); exact Kd.R_mono HO258.out (fun _ hk => trivial)⟩, ⟨by repeat (with_reducible first | exact HB.out | apply Y3 | apply Y1 | apply Y2)⟩⟩
   rw [if_neg c7] at H
   have c7b0 : ((bt a0 x5_1) == 10) = false := beq_eq_false_iff_ne.mpr c7
   have c7b1 : ((bt a0 x5_1) != 10) = true := bne_iff_ne.mpr c7
   have HC13 := Y0 H
   clear H
   have p6 : 0 ≤ (x5_1 : Int) := of_decide_eq_true (by first | (with_reducible assumption) | assumption)
   have q6 : x5_1 < (a0.size : Int) := of_decide_eq_true (by first | (with_reducible assumption) | assumption)
   have hx6 := bt_at a0 x5_1
   replace p6 := eq_true p6
   replace q6 := eq_true q6
   go_upto_region 9 with (fail)
   go_cut [27] (fun v27 wc => ∃ (kq : Nat) (x27_12 : Bool), v27 = .bool x27_12 ∧ Aside0 (truffleref06_Quote.j1 kq a0 x3_1 (⟨#[48, 49, 50, 51, 52, 53, 54, 55, 56, 57, 97, 98, 99, 100, 101, 102]⟩ : ByteArray) x5_1 (bt a0 x5_1) x27_12 = some r) ∧ Aside0 (kq ≤ k1) ∧ Aside0 (Kd.R (Kd.int .u8) 5 wc w.heap.size (fun _ => True) u3 x3_1) ∧ Aside0 (Below w.heap.size w wc))
   case first =>
    have H := HC13.out
    clear HC13
    by_cases c14 : (bt a0 x5_1) < 32
    ·rw [if_pos c14] at H
     have c14b0 : decide ((bt a0 x5_1) < 32) = true := decide_eq_true c14
     clear c14
     (first | rw [c14b0] | (simp only [i64_w]; rw [c14b0]) | skip)
     have H' := Y0 H
     clear H
     go_wp2
     go_meet
     case rel => exact ⟨_, (true), (by first | rfl | (simp; done) | (simp [*]; done)), H', ⟨by have := HK1.out; first | omega | exact Nat.le_refl _⟩, ⟨by (with_reducible repeat (first | apply Kd.R_alloc | apply Y6 | apply Y7)); exact HO_3.out⟩, ⟨by repeat (with_reducible first | exact HB.out | apply Y3 | apply Y1 | apply Y2)⟩⟩
    rw [if_neg c14] at H
    have c14b0 : decide ((bt a0 x5_1) < 32) = false := decide_eq_false c14
    clear c14
    (first | rw [c14b0] | (simp only [i64_w]; rw [c14b0]) | skip)
    have H' := Y0 H
    clear H
    go_wp2
    go_meet
    case rel => exact ⟨_, (decide ((bt a0 x5_1) > 126)), (by first | rfl | (simp; done) | (simp [*]; done)), H', ⟨by have := HK1.out; first | omega | exact Nat.le_refl _⟩, ⟨by (with_reducible repeat (first | apply Kd.R_alloc | apply Y6 | apply Y7)); exact HO_3.out⟩, ⟨by repeat (with_reducible first | exact HB.out | apply Y3 | apply Y1 | apply Y2)⟩⟩
   case rest =>
    clear HC13
    obtain ⟨kq, x27_12, rfl, HA, HJ12, HO_3, HB⟩ := hcut
    cases kq with
    | zero => exact absurd HA.out (by simp [truffleref06_Quote.j1])
    | succ kj12 =>
     have H := HA.out
     clear HA
     simp only [truffleref06_Quote.j1] at H
     by_cases c15 : x27_12 = true
     rotate_left
     ·replace c15 := Bool.eq_false_iff.mpr c15
      subst c15
      rw [if_neg (show ¬ (false = true) by decide)] at H
      by_cases c30 : (bt a0 x5_1) = 34
      ·rw [if_pos c30] at H
       have c30b0 : ((bt a0 x5_1) == 34) = true := beq_iff_eq.mpr c30
       have c30b1 : ((bt a0 x5_1) != 34) = false := bne_eq_false_iff_eq.mpr c30
       clear c30
       obtain ⟨y265, hy265⟩ : ∃ y_ : List Int, y_ = (([92, (bt a0 x5_1)] : List Int)) := ⟨_, rfl⟩
       replace H : (if x3_1.length + y265.length < 140737488355328 then (truffleref06_Quote.l0 kj12 a0 (x3_1 ++ y265) (⟨#[48, 49, 50, 51, 52, 53, 54, 55, 56, 57, 97, 98, 99, 100, 101, 102]⟩ : ByteArray) (wrap64 (x5_1 + 1))) else (none)) = some r := by first | (rw [hy265]; with_reducible exact H) | (have H2_ := (Option.bind_some _ _).symm.trans H; rw [hy265]; with_reducible exact H2_) | (have H2_ := (Option.bind_some _ _).symm.trans H; with_reducible exact H2_) | with_reducible exact H | (rw [hy265]; exact H) | exact H
       have Ny265 := Y0 hy265
       clear hy265
       by_cases c31 : x3_1.length + y265.length < 140737488355328
       rotate_left
       ·rw [if_neg c31] at H
        exact absurd H (by simp)
       rw [if_pos c31] at H
       have LMc31 := Y0 c31
       clear c31
       obtain ⟨y268, hy268⟩ : ∃ y_ : List Int, y_ = (x3_1 ++ y265) := ⟨_, rfl⟩
       replace H : (truffleref06_Quote.l0 kj12 a0 y268 (⟨#[48, 49, 50, 51, 52, 53, 54, 55, 56, 57, 97, 98, 99, 100, 101, 102]⟩ : ByteArray) (wrap64 (x5_1 + 1))) = some r := by first | (rw [hy268]; with_reducible exact H) | (have H2_ := (Option.bind_some _ _).symm.trans H; rw [hy268]; with_reducible exact H2_) | (have H2_ := (Option.bind_some _ _).symm.trans H; with_reducible exact H2_) | with_reducible exact H | (rw [hy268]; exact H) | exact H
       have Ny268 := Y0 hy268
       clear hy268
       have H' := Y0 H
       clear H
       go_wp2_with (first | ((with_reducible refine gate_dst (N := 47) rfl ?_); refine Kd.R_lit (Kd.int .u8) _ 5 ?hg (N := 47) ?hd (xs := ([92, (bt a0 x5_1)] : List Int)) (inner := [.int .u8 92, .int .u8 (bt a0 x5_1)]) (ok := fun _ => True) (okp := fun _ => True) ?hr ?hp (fun _ hk => hk) trivial (Below.refl _ _) (Nat.le_refl _) (by simp) ?_; (case hd => rfl); (case hg => rfl); (case hr => first | (go_simp; done) | (go_simp; rfl)); (case hp => exact (Reps.one (show Kd.M (Kd.int .u8) _ _ _ 92 [.int .u8 92] from rfl) (Reps.one (show Kd.M (Kd.int .u8) _ _ _ (bt a0 x5_1) [.int .u8 (bt a0 x5_1)] from rfl) (Reps.none _ _)))); intro v266 w32 ho33 hb hg_ hnew_; clear hg_ hnew_; (first | rw [← Ny265.out] at ho33 | (simp only [Int.reduceToNat] at ho33; rw [← Ny265.out] at ho33)); have n0_ := Y0 (Kd.R_elder' (by (with_reducible repeat (first | apply Kd.R_alloc | apply Y6 | apply Y7)); exact HO_3.out) (Kd.R_base ho33) hb); have n1_ := Y0 (Kd.R_lower (Kd.R_new' ho33 (Kd.R_lt (by (with_reducible repeat (first | apply Kd.R_alloc | apply Y6 | apply Y7)); exact HO_3.out))) (below_size (by repeat (with_reducible first | exact HB.out | apply Y3 | apply Y1 | apply Y2)))); have n2_ := Y0 (below_step (by repeat (with_reducible first | exact HB.out | apply Y3 | apply Y1 | apply Y2)) hb); clear HO_3; clear HB; have HO_3 := n0_; have HO267 := n1_; have HB := n2_; clear n0_ n1_ n2_; clear hb ho33; obtain ⟨Ao35, co35, eo35⟩ := Kd.R_slice HO267.out; subst eo35) | ((with_reducible refine gate_builtin (b := .append) (xs := #[.tmp 45, .tmp 47]) rfl ?_); at_builtin; refine Kd.R_append_rows (Kd.int .u8) (w0 := w) w.heap.size rfl (.tmp 45) (.tmp 47) 63 5 (.int .u8 0) 1 rfl Tryd.underlying63 info5 rfl (by decide) (by omega) u3 x3_1 y265 _ _ _ (fun k_ => some k_ ≠ (.slice Ao35 y265.length co35 : Value).ownBlock) (fun _ => False) rfl rfl ?aO ?aR (fun _ _ h => h) (fun _ h => h.elim) ?aF ?aB ?aS ?aL ?_; (case aR => repeat (first | exact (Kd.R_reads' HO267.out).2.2 | (with_reducible refine Kd.C_alloc ?_ _) | (with_reducible refine Kd.C_drewN ?_ _) | (with_reducible refine Kd.C_drew ?_))); (case aB => exact (by repeat (with_reducible first | exact HB.out | apply Y3 | apply Y1 | apply Y2))); (case aF => exact (fun k_ hk => Kd.fresh' (Kd.R_lt (by (with_reducible repeat (first | apply Kd.R_alloc | apply Y6 | apply Y7)); exact HO267.out)) k_ hk)); (case aO => exact (by (with_reducible repeat (first | apply Kd.R_alloc | apply Y6 | apply Y7)); exact Kd.R_mono HO_3.out (fun _ hk => hk.2))); (case aS => exact (below_size (by repeat (with_reducible first | exact HB.out | apply Y3 | apply Y1 | apply Y2)))); (case aL => have := LMc31.out; omega); intro v269 w34 ho hb hg hat; rw [← Ny268.out] at ho; have n0_ := Y0 (Kd.R_after (ok := (fun _ => True)) (by (with_reducible repeat (first | apply Kd.R_alloc | apply Y6 | apply Y7)); exact HO267.out) hg hat); have n1_ := Y0 (hb); have n2_ := Y0 (ho); clear HO267; clear HB; clear HO_3; have HO267 := n0_; have HB := n1_; have HO270 := n2_; clear n0_ n1_ n2_; clear ho hb hg hat))
       go_roundg kj12
       case measure => have := HK1.out; have := HJ12.out; omega
       case rel => exact ⟨(y268), (wrap64 (x5_1 + 1)), (by first | rfl | (simp; done) | (simp [*]; done)), H', ⟨by have := HK1.out; have := HJ12.out; omega⟩, ⟨by (with_reducible repeat (first | apply Kd.R_alloc | apply Y6 | apply Y7)); exact Kd.R_mono HO270.out (fun _ hk => trivial)⟩, ⟨by repeat (with_reducible first | exact HB.out | apply Y3 | apply Y1 | apply Y2)⟩⟩
      rw [if_neg c30] at H
      have c30b0 : ((bt a0 x5_1) == 34) = false := beq_eq_false_iff_ne.mpr c30
      have c30b1 : ((bt a0 x5_1) != 34) = true := bne_iff_ne.mpr c30
      by_cases c36 : (bt a0 x5_1) = 92
      rotate_left
      ·rw [if_neg c36] at H
       have c36b0 : ((bt a0 x5_1) == 92) = false := beq_eq_false_iff_ne.mpr c36
       have c36b1 : ((bt a0 x5_1) != 92) = true := bne_iff_ne.mpr c36
       by_cases c42 : x3_1.length < 140737488355328
       rotate_left
       ·rw [if_neg c42] at H
        exact absurd H (by simp)
       rw [if_pos c42] at H
       have LMc42 := Y0 c42
       clear c42
       obtain ⟨y277, hy277⟩ : ∃ y_ : List Int, y_ = (x3_1 ++ [(bt a0 x5_1)]) := ⟨_, rfl⟩
       replace H : (truffleref06_Quote.l0 kj12 a0 y277 (⟨#[48, 49, 50, 51, 52, 53, 54, 55, 56, 57, 97, 98, 99, 100, 101, 102]⟩ : ByteArray) (wrap64 (x5_1 + 1))) = some r := by first | (rw [hy277]; with_reducible exact H) | (have H2_ := (Option.bind_some _ _).symm.trans H; rw [hy277]; with_reducible exact H2_) | (have H2_ := (Option.bind_some _ _).symm.trans H; with_reducible exact H2_) | with_reducible exact H | (rw [hy277]; exact H) | exact H
       have Ny277 := Y0 hy277
       clear hy277
       have H' := Y0 H
       clear H
       go_wp2_with (first | ((with_reducible refine gate_builtin (b := .append) (xs := #[.tmp 49, .tmp 51]) rfl ?_); at_builtin; refine Kd.R_append (Kd.int .u8) (w0 := w) w.heap.size rfl (.tmp 49) (.tmp 51) 63 5 (.int .u8 0) 1 rfl Tryd.underlying63 info5 rfl (by decide) (by omega) u3 x3_1 (bt a0 x5_1) [.int .u8 (bt a0 x5_1)] (fun _ => True) (fun _ => False) rfl rfl ?aP (fun _ hk => hk.elim) ?aF ?aO ?aB ?aS ?aL ?_; (case aP => exact rfl); (case aB => exact (by repeat (with_reducible first | exact HB.out | apply Y3 | apply Y1 | apply Y2))); (case aF => exact (fun _ _ => trivial)); (case aO => exact (by (with_reducible repeat (first | apply Kd.R_alloc | apply Y6 | apply Y7)); exact HO_3.out)); (case aS => exact (below_size (by repeat (with_reducible first | exact HB.out | apply Y3 | apply Y1 | apply Y2)))); (case aL => have := LMc42.out; omega); intro v278 w43 ho hb hg hat; rw [← Ny277.out] at ho; have n0_ := Y0 (hb); have n1_ := Y0 (ho); clear HB; clear HO_3; have HB := n0_; have HO279 := n1_; clear n0_ n1_; clear ho hb hg hat))
       go_roundg kj12
       case measure => have := HK1.out; have := HJ12.out; omega
       case rel => exact ⟨(y277), (wrap64 (x5_1 + 1)), (by first | rfl | (simp; done) | (simp [*]; done)), H', ⟨by have := HK1.out; have := HJ12.out; omega⟩, ⟨by (with_reducible repeat (first | apply Kd.R_alloc | apply Y6 | apply Y7)); exact HO279.out⟩, ⟨by repeat (with_reducible first | exact HB.out | apply Y3 | apply Y1 | apply Y2)⟩⟩
      rw [if_pos c36] at H
      have c36b0 : ((bt a0 x5_1) == 92) = true := beq_iff_eq.mpr c36
      have c36b1 : ((bt a0 x5_1) != 92) = false := bne_eq_false_iff_eq.mpr c36
      clear c36
      obtain ⟨y271, hy271⟩ : ∃ y_ : List Int, y_ = (([92, (bt a0 x5_1)] : List Int)) := ⟨_, rfl⟩
      replace H : (if x3_1.length + y271.length < 140737488355328 then (truffleref06_Quote.l0 kj12 a0 (x3_1 ++ y271) (⟨#[48, 49, 50, 51, 52, 53, 54, 55, 56, 57, 97, 98, 99, 100, 101, 102]⟩ : ByteArray) (wrap64 (x5_1 + 1))) else (none)) = some r := by first | (rw [hy271]; with_reducible exact H) | (have H2_ := (Option.bind_some _ _).symm.trans H; rw [hy271]; with_reducible exact H2_) | (have H2_ := (Option.bind_some _ _).symm.trans H; with_reducible exact H2_) | with_reducible exact H | (rw [hy271]; exact H) | exact H
      have Ny271 := Y0 hy271
      clear hy271
      by_cases c37 : x3_1.length + y271.length < 140737488355328
      rotate_left
      ·rw [if_neg c37] at H
       exact absurd H (by simp)
      rw [if_pos c37] at H
      have LMc37 := Y0 c37
      clear c37
      obtain ⟨y274, hy274⟩ : ∃ y_ : List Int, y_ = (x3_1 ++ y271) := ⟨_, rfl⟩
      replace H : (truffleref06_Quote.l0 kj12 a0 y274 (⟨#[48, 49, 50, 51, 52, 53, 54, 55, 56, 57, 97, 98, 99, 100, 101, 102]⟩ : ByteArray) (wrap64 (x5_1 + 1))) = some r := by first | (rw [hy274]; with_reducible exact H) | (have H2_ := (Option.bind_some _ _).symm.trans H; rw [hy274]; with_reducible exact H2_) | (have H2_ := (Option.bind_some _ _).symm.trans H; with_reducible exact H2_) | with_reducible exact H | (rw [hy274]; exact H) | exact H
      have Ny274 := Y0 hy274
      clear hy274
      have H' := Y0 H
      clear H
      go_wp2_with (first | ((with_reducible refine gate_dst (N := 47) rfl ?_); refine Kd.R_lit (Kd.int .u8) _ 5 ?hg (N := 47) ?hd (xs := ([92, (bt a0 x5_1)] : List Int)) (inner := [.int .u8 92, .int .u8 (bt a0 x5_1)]) (ok := fun _ => True) (okp := fun _ => True) ?hr ?hp (fun _ hk => hk) trivial (Below.refl _ _) (Nat.le_refl _) (by simp) ?_; (case hd => rfl); (case hg => rfl); (case hr => first | (go_simp; done) | (go_simp; rfl)); (case hp => exact (Reps.one (show Kd.M (Kd.int .u8) _ _ _ 92 [.int .u8 92] from rfl) (Reps.one (show Kd.M (Kd.int .u8) _ _ _ (bt a0 x5_1) [.int .u8 (bt a0 x5_1)] from rfl) (Reps.none _ _)))); intro v272 w38 ho39 hb hg_ hnew_; clear hg_ hnew_; (first | rw [← Ny271.out] at ho39 | (simp only [Int.reduceToNat] at ho39; rw [← Ny271.out] at ho39)); have n0_ := Y0 (Kd.R_elder' (by (with_reducible repeat (first | apply Kd.R_alloc | apply Y6 | apply Y7)); exact HO_3.out) (Kd.R_base ho39) hb); have n1_ := Y0 (Kd.R_lower (Kd.R_new' ho39 (Kd.R_lt (by (with_reducible repeat (first | apply Kd.R_alloc | apply Y6 | apply Y7)); exact HO_3.out))) (below_size (by repeat (with_reducible first | exact HB.out | apply Y3 | apply Y1 | apply Y2)))); have n2_ := Y0 (below_step (by repeat (with_reducible first | exact HB.out | apply Y3 | apply Y1 | apply Y2)) hb); clear HO_3; clear HB; have HO_3 := n0_; have HO273 := n1_; have HB := n2_; clear n0_ n1_ n2_; clear hb ho39; obtain ⟨Ao41, co41, eo41⟩ := Kd.R_slice HO273.out; subst eo41) | ((with_reducible refine gate_builtin (b := .append) (xs := #[.tmp 45, .tmp 47]) rfl ?_); at_builtin; refine Kd.R_append_rows (Kd.int .u8) (w0 := w) w.heap.size rfl (.tmp 45) (.tmp 47) 63 5 (.int .u8 0) 1 rfl Tryd.underlying63 info5 rfl (by decide) (by omega) u3 x3_1 y271 _ _ _ (fun k_ => some k_ ≠ (.slice Ao41 y271.length co41 : Value).ownBlock) (fun _ => False) rfl rfl ?aO ?aR (fun _ _ h => h) (fun _ h => h.elim) ?aF ?aB ?aS ?aL ?_; (case aR => repeat (first | exact (Kd.R_reads' HO273.out).2.2 | (with_reducible refine Kd.C_alloc ?_ _) | (with_reducible refine Kd.C_drewN ?_ _) | (with_reducible refine Kd.C_drew ?_))); (case aB => exact (by repeat (with_reducible first | exact HB.out | apply Y3 | apply Y1 | apply Y2))); (case aF => exact (fun k_ hk => Kd.fresh' (Kd.R_lt (by (with_reducible repeat (first | apply Kd.R_alloc | apply Y6 | apply Y7)); exact HO273.out)) k_ hk)); (case aO => exact (by (with_reducible repeat (first | apply Kd.R_alloc | apply Y6 | apply Y7)); exact Kd.R_mono HO_3.out (fun _ hk => hk.2))); (case aS => exact (below_size (by repeat (with_reducible first | exact HB.out | apply Y3 | apply Y1 | apply Y2)))); (case aL => have := LMc37.out; omega); intro v275 w40 ho hb hg hat; rw [← Ny274.out] at ho; have n0_ := Y0 (Kd.R_after (ok := (fun _ => True)) (by (with_reducible repeat (first | apply Kd.R_alloc | apply Y6 | apply Y7)); exact HO273.out) hg hat); have n1_ := Y0 (hb); have n2_ := Y0 (ho); clear HO273; clear HB; clear HO_3; have HO273 := n0_; have HB := n1_; have HO276 := n2_; clear n0_ n1_ n2_; clear ho hb hg hat))
      go_roundg kj12
      case measure => have := HK1.out; have := HJ12.out; omega
      case rel => exact ⟨(y274), (wrap64 (x5_1 + 1)), (by first | rfl | (simp; done) | (simp [*]; done)), H', ⟨by have := HK1.out; have := HJ12.out; omega⟩, ⟨by (with_reducible repeat (first | apply Kd.R_alloc | apply Y6 | apply Y7)); exact Kd.R_mono HO276.out (fun _ hk => trivial)⟩, ⟨by repeat (with_reducible first | exact HB.out | apply Y3 | apply Y1 | apply Y2)⟩⟩
     subst c15
     rw [if_pos rfl] at H
     obtain ⟨ji16, hji16⟩ : ∃ j_ : Int, ((Int.tdiv (bt a0 x5_1) 16) % 256) = j_ := ⟨_, rfl⟩
     have hji16w : IntKind.u8.wrap (Int.tdiv (bt a0 x5_1) 16) = ji16 := by rw [← hji16]; rfl
     replace H : (if 0 ≤ (ji16) then (if (ji16) < ((⟨#[48, 49, 50, 51, 52, 53, 54, 55, 56, 57, 97, 98, 99, 100, 101, 102]⟩ : ByteArray).size : Int) then (if 0 ≤ (Int.tmod (bt a0 x5_1) 16) then (if (Int.tmod (bt a0 x5_1) 16) < ((⟨#[48, 49, 50, 51, 52, 53, 54, 55, 56, 57, 97, 98, 99, 100, 101, 102]⟩ : ByteArray).size : Int) then ((some (([92, 120, bt (⟨#[48, 49, 50, 51, 52, 53, 54, 55, 56, 57, 97, 98, 99, 100, 101, 102]⟩ : ByteArray) (ji16), bt (⟨#[48, 49, 50, 51, 52, 53, 54, 55, 56, 57, 97, 98, 99, 100, 101, 102]⟩ : ByteArray) (Int.tmod (bt a0 x5_1) 16)] : List Int) : List Int)).bind fun y259 => (if x3_1.length + y259.length < 140737488355328 then (truffleref06_Quote.l0 kj12 a0 (x3_1 ++ y259) (⟨#[48, 49, 50, 51, 52, 53, 54, 55, 56, 57, 97, 98, 99, 100, 101, 102]⟩ : ByteArray) (wrap64 (x5_1 + 1))) else (none))) else (none)) else (none)) else (none)) else (none)) = some r := by first | (rw [hji16] at H; exact H) | (simp only [hji16] at H ⊢; exact H)
     by_cases c17 : 0 ≤ (ji16)
     rotate_left
     ·rw [if_neg c17] at H
      exact absurd H (by simp)
     rw [if_pos c17] at H
     have c17b0 : decide (0 ≤ (ji16)) = true := decide_eq_true c17
     clear c17
     by_cases c18 : (ji16) < ((⟨#[48, 49, 50, 51, 52, 53, 54, 55, 56, 57, 97, 98, 99, 100, 101, 102]⟩ : ByteArray).size : Int)
     rotate_left
     ·rw [if_neg c18] at H
      exact absurd H (by simp)
     rw [if_pos c18] at H
     have c18b0 : decide ((ji16) < ((⟨#[48, 49, 50, 51, 52, 53, 54, 55, 56, 57, 97, 98, 99, 100, 101, 102]⟩ : ByteArray).size : Int)) = true := decide_eq_true c18
     clear c18
     obtain ⟨ji20, hji20⟩ : ∃ j_ : Int, (Int.tmod (bt a0 x5_1) 16) = j_ := ⟨_, rfl⟩
     replace H : (if 0 ≤ (ji20) then (if (ji20) < ((⟨#[48, 49, 50, 51, 52, 53, 54, 55, 56, 57, 97, 98, 99, 100, 101, 102]⟩ : ByteArray).size : Int) then ((some (([92, 120, bt (⟨#[48, 49, 50, 51, 52, 53, 54, 55, 56, 57, 97, 98, 99, 100, 101, 102]⟩ : ByteArray) (ji16), bt (⟨#[48, 49, 50, 51, 52, 53, 54, 55, 56, 57, 97, 98, 99, 100, 101, 102]⟩ : ByteArray) (ji20)] : List Int) : List Int)).bind fun y259 => (if x3_1.length + y259.length < 140737488355328 then (truffleref06_Quote.l0 kj12 a0 (x3_1 ++ y259) (⟨#[48, 49, 50, 51, 52, 53, 54, 55, 56, 57, 97, 98, 99, 100, 101, 102]⟩ : ByteArray) (wrap64 (x5_1 + 1))) else (none))) else (none)) else (none)) = some r := by first | (rw [hji20] at H; exact H) | (simp only [hji20] at H ⊢; exact H)
     by_cases c21 : 0 ≤ (ji20)
     rotate_left
     ·rw [if_neg c21] at H
      exact absurd H (by simp)
     rw [if_pos c21] at H
     have c21b0 : decide (0 ≤ (ji20)) = true := decide_eq_true c21
     clear c21
     by_cases c22 : (ji20) < ((⟨#[48, 49, 50, 51, 52, 53, 54, 55, 56, 57, 97, 98, 99, 100, 101, 102]⟩ : ByteArray).size : Int)
     rotate_left
     ·rw [if_neg c22] at H
      exact absurd H (by simp)
     rw [if_pos c22] at H
     have c22b0 : decide ((ji20) < ((⟨#[48, 49, 50, 51, 52, 53, 54, 55, 56, 57, 97, 98, 99, 100, 101, 102]⟩ : ByteArray).size : Int)) = true := decide_eq_true c22
     clear c22
     obtain ⟨y259, hy259⟩ : ∃ y_ : List Int, y_ = (([92, 120, bt (⟨#[48, 49, 50, 51, 52, 53, 54, 55, 56, 57, 97, 98, 99, 100, 101, 102]⟩ : ByteArray) (ji16), bt (⟨#[48, 49, 50, 51, 52, 53, 54, 55, 56, 57, 97, 98, 99, 100, 101, 102]⟩ : ByteArray) (ji20)] : List Int)) := ⟨_, rfl⟩
     replace H : (if x3_1.length + y259.length < 140737488355328 then (truffleref06_Quote.l0 kj12 a0 (x3_1 ++ y259) (⟨#[48, 49, 50, 51, 52, 53, 54, 55, 56, 57, 97, 98, 99, 100, 101, 102]⟩ : ByteArray) (wrap64 (x5_1 + 1))) else (none)) = some r := by first | (rw [hy259]; with_reducible exact H) | (have H2_ := (Option.bind_some _ _).symm.trans H; rw [hy259]; with_reducible exact H2_) | (have H2_ := (Option.bind_some _ _).symm.trans H; with_reducible exact H2_) | with_reducible exact H | (rw [hy259]; exact H) | exact H
     have Ny259 := Y0 hy259
     clear hy259
     by_cases c24 : x3_1.length + y259.length < 140737488355328
     rotate_left
     ·rw [if_neg c24] at H
      exact absurd H (by simp)
     rw [if_pos c24] at H
     have LMc24 := Y0 c24
     clear c24
     obtain ⟨y262, hy262⟩ : ∃ y_ : List Int, y_ = (x3_1 ++ y259) := ⟨_, rfl⟩
     replace H : (truffleref06_Quote.l0 kj12 a0 y262 (⟨#[48, 49, 50, 51, 52, 53, 54, 55, 56, 57, 97, 98, 99, 100, 101, 102]⟩ : ByteArray) (wrap64 (x5_1 + 1))) = some r := by first | (rw [hy262]; with_reducible exact H) | (have H2_ := (Option.bind_some _ _).symm.trans H; rw [hy262]; with_reducible exact H2_) | (have H2_ := (Option.bind_some _ _).symm.trans H; with_reducible exact H2_) | with_reducible exact H | (rw [hy262]; exact H) | exact H
     have Ny262 := Y0 hy262
     clear hy262
     have H' := Y0 H
     clear H
     try go_wp2
     have n0_ := Y0 (Kd.R_drew HO_3.out)
     have n1_ := Y0 (below_drew1 HB.out)
     clear HO_3
     clear HB
     have HO_3 := n0_
     have HB := n1_
     clear n0_ n1_
     have p19 : 0 ≤ ((ji16) : Int) := of_decide_eq_true (by first | (with_reducible assumption) | assumption)
     have q19 : (ji16) < (16 : Int) := of_decide_eq_true (by first | (with_reducible assumption) | assumption)
     have hx19 := bt_at (⟨#[48, 49, 50, 51, 52, 53, 54, 55, 56, 57, 97, 98, 99, 100, 101, 102]⟩ : ByteArray) (ji16)
     replace p19 := eq_true p19
     replace q19 := eq_true q19
     have p23 : 0 ≤ ((ji20) : Int) := of_decide_eq_true (by first | (with_reducible assumption) | assumption)
     have q23 : (ji20) < (16 : Int) := of_decide_eq_true (by first | (with_reducible assumption) | assumption)
     have hx23 := bt_at (⟨#[48, 49, 50, 51, 52, 53, 54, 55, 56, 57, 97, 98, 99, 100, 101, 102]⟩ : ByteArray) (ji20)
     replace p23 := eq_true p23
     replace q23 := eq_true q23
     refine start_ (n := 12) (S := fun w' => True) (ds := []) #[false, false, false, false, false, false, false, false, false, false, false, false] (by kernel_rfl) rfl rfl trivial (fun hHeld => ?_); refine with_tabW truffleref06_Quote.tab10 truffleref06_Quote.bits10 (fun HT_ HW_ => ?_)
     generalize wc.drew = w25 at HO_3 HB hHeld ⊢
     refine pure_ (i := 0) (N := some 28) (v := ?_) (a' := ?_) (sqB 12 1) rfl rfl (any_of HT_.out (by kernel_rfl)) (fun _ _ _ h => h) (Or.inl ⟨by rfl, ?_⟩) ?_ ?_
     rotate_left
     ·intro w'
      go_simp
      with_reducible rfl
     rotate_left
     ·simp only [Act.put, Y14, Y15, Y16, i64_w]
      rfl
     refine pure_ (i := 1) (N := some 29) (v := ?_) (a' := ?_) (sqB 12 3) rfl rfl (any_of HT_.out (by kernel_rfl)) (fun _ _ _ h => h) (Or.inl ⟨by rfl, ?_⟩) ?_ ?_
     rotate_left
     ·intro w'
      go_simp
      with_reducible rfl
     rotate_left
     ·simp only [Act.put, Y14, Y15, Y16, i64_w]
      rfl
     refine pure_ (i := 2) (N := some 30) (v := ?_) (a' := ?_) (sqB 12 7) rfl rfl (any_of HT_.out (by kernel_rfl)) (fun _ _ _ h => h) (Or.inl ⟨by rfl, ?_⟩) ?_ ?_
     rotate_left
     ·intro w'
      go_simp
      with_reducible rfl
     rotate_left
     ·simp only [Act.put, Y14, Y15, Y16, i64_w]
      rfl
     refine pure_ (i := 3) (N := some 31) (v := ?_) (a' := ?_) (sqB 12 15) rfl rfl (any_of HT_.out (by kernel_rfl)) (fun _ _ _ h => h) (Or.inl ⟨by rfl, ?_⟩) ?_ ?_
     rotate_left
     ·intro w'
      go_simp
      with_reducible rfl
     rotate_left
     ·simp only [Act.put, Y14, Y15, Y16, i64_w]
      rfl
     refine pure_ (i := 5) (N := some 33) (v := ?_) (a' := ?_) (sqB 12 47) rfl rfl (any_of HT_.out (by kernel_rfl)) (fun _ _ _ h => h) (Or.inl ⟨by rfl, ?_⟩) ?_ ?_
     rotate_left
     ·intro w'
      go_simp
      with_reducible rfl
     rotate_left
     ·simp only [Act.put, Y14, Y15, Y16, i64_w]
      rfl
     refine pure_ (i := 6) (N := some 34) (v := ?_) (a' := ?_) (sqB 12 111) rfl rfl (any_of HT_.out (by kernel_rfl)) (fun _ _ _ h => h) (Or.inl ⟨by rfl, ?_⟩) ?_ ?_
     rotate_left
     ·intro w'
      go_simp
      with_reducible rfl
     rotate_left
     ·simp only [Act.put, Y14, Y15, Y16, i64_w]
      rfl
     refine pure_ (i := 7) (N := some 35) (v := ?_) (a' := ?_) (sqB 12 239) rfl rfl (any_of HT_.out (by kernel_rfl)) (fun _ _ _ h => h) (Or.inl ⟨by rfl, ?_⟩) ?_ ?_
     rotate_left
     ·intro w'
      go_simp
      with_reducible rfl
     rotate_left
     ·simp only [Act.put, Y14, Y15, Y16, i64_w]
      rfl
     refine take_ (i := 4) (N := some 32) (v := ?_) (a' := ?_) (sqB 12 255) rfl rfl (take_ofW HT_.out HW_.out (by kernel_rfl)) (fun _ _ _ h => h) (Or.inl ⟨by rfl, ?_⟩) hHeld ?_ ?_
     rotate_left
     ·intro w' _
      go_simp
      with_reducible rfl
     rotate_left
     ·simp only [Act.put, Y14, Y15, Y16, i64_w]
      rfl
     refine take_ (i := 8) (N := some 36) (v := ?_) (a' := ?_) (sqB 12 511) rfl rfl (take_ofW HT_.out HW_.out (by kernel_rfl)) (fun _ _ _ h => h) (Or.inl ⟨by rfl, ?_⟩) hHeld ?_ ?_
     rotate_left
     ·intro w' _
      go_simp
      with_reducible rfl
     rotate_left
     ·simp only [Act.put, Y14, Y15, Y16, i64_w]
      rfl
     refine one_ (i := 9) (N := some 37) (sqB 12 1023) rfl rfl (one_of HT_.out (by kernel_rfl)) (by decide) (fun K hK => ?_)
     refine Kd.R_lit_step (Kd.int .u8) _ 5 ?hg (N := 37) ?hd (xs := ([92, 120, bt (⟨#[48, 49, 50, 51, 52, 53, 54, 55, 56, 57, 97, 98, 99, 100, 101, 102]⟩ : ByteArray) (ji16), bt (⟨#[48, 49, 50, 51, 52, 53, 54, 55, 56, 57, 97, 98, 99, 100, 101, 102]⟩ : ByteArray) (ji20)] : List Int)) (inner := [.int .u8 92, .int .u8 120, .int .u8 (bt (⟨#[48, 49, 50, 51, 52, 53, 54, 55, 56, 57, 97, 98, 99, 100, 101, 102]⟩ : ByteArray) (ji16)), .int .u8 (bt (⟨#[48, 49, 50, 51, 52, 53, 54, 55, 56, 57, 97, 98, 99, 100, 101, 102]⟩ : ByteArray) (ji20))]) (ok := fun _ => True) (okp := fun _ => True) ?hr ?hp (fun _ hk => hk) trivial (Below.refl _ _) (Nat.le_refl _) (by simp) ?_; (case hd => rfl); (case hg => rfl); (case hr => first | (go_simp; done) | (go_simp; rfl)); (case hp => exact (Reps.one (show Kd.M (Kd.int .u8) _ _ _ 92 [.int .u8 92] from rfl) (Reps.one (show Kd.M (Kd.int .u8) _ _ _ 120 [.int .u8 120] from rfl) (Reps.one (show Kd.M (Kd.int .u8) _ _ _ (bt (⟨#[48, 49, 50, 51, 52, 53, 54, 55, 56, 57, 97, 98, 99, 100, 101, 102]⟩ : ByteArray) (ji16)) [.int .u8 (bt (⟨#[48, 49, 50, 51, 52, 53, 54, 55, 56, 57, 97, 98, 99, 100, 101, 102]⟩ : ByteArray) (ji16))] from rfl) (Reps.one (show Kd.M (Kd.int .u8) _ _ _ (bt (⟨#[48, 49, 50, 51, 52, 53, 54, 55, 56, 57, 97, 98, 99, 100, 101, 102]⟩ : ByteArray) (ji20)) [.int .u8 (bt (⟨#[48, 49, 50, 51, 52, 53, 54, 55, 56, 57, 97, 98, 99, 100, 101, 102]⟩ : ByteArray) (ji20))] from rfl) (Reps.none _ _))))))
     intro v260 w26 ho27 hb hg_ hnew_
     clear hg_ hnew_
     (first | rw [← Ny259.out] at ho27 | (simp only [Int.reduceToNat] at ho27; rw [← Ny259.out] at ho27))
     have n0_ := Y0 (Kd.R_elder' (by (with_reducible repeat (first | apply Kd.R_alloc | apply Y6 | apply Y7)); exact HO_3.out) (Kd.R_base ho27) hb)
     have n1_ := Y0 (Kd.R_lower (Kd.R_new' ho27 (Kd.R_lt (by (with_reducible repeat (first | apply Kd.R_alloc | apply Y6 | apply Y7)); exact HO_3.out))) (below_size (by repeat (with_reducible first | exact HB.out | apply Y3 | apply Y1 | apply Y2))))
     have n2_ := Y0 (below_step (by repeat (with_reducible first | exact HB.out | apply Y3 | apply Y1 | apply Y2)) hb)
     clear HO_3
     clear HB
     have HO_3 := n0_
     have HO261 := n1_
     have HB := n2_
     clear n0_ n1_ n2_
     clear hb ho27
     obtain ⟨Ao29, co29, eo29⟩ := Kd.R_slice HO261.out
     (first | subst eo29 | (injection eo29 with f1_ f2_ f3_; have f4_ := f1_.symm; have f5_ := f3_.symm; clear f1_ f2_ f3_; subst f4_; subst f5_))
     refine hK.out _ _ trivial (fun hHeld => ?_)
     clear hK K
     refine norm_ (a' := ?_) ?_ ?_
     rotate_left
     ·show Act.put _ (some 37) _ = _
      simp only [Act.put, Y14, Y15, Y16, i64_w]
      rfl
     refine one_ (i := 10) (N := some 38) (sqB 12 2047) rfl rfl (one_of HT_.out (by kernel_rfl)) (by decide) (fun K hK => ?_)
     refine Kd.R_append_rows_step (Kd.int .u8) (w0 := w) w.heap.size (by rfl) (.tmp 28) (.tmp 37) 63 5 (.int .u8 0) 1 rfl Tryd.underlying63 info5 rfl (by decide) (by omega) u3 x3_1 y259 _ _ _ (fun k_ => some k_ ≠ (.slice Ao29 y259.length co29 : Value).ownBlock) (fun _ => False) rfl rfl ?aO ?aR (fun _ _ h => h) (fun _ h => h.elim) ?aF ?aB ?aS ?aL ?_
     (case aR => repeat (first | exact (Kd.R_reads' HO261.out).2.2 | (with_reducible refine Kd.C_alloc ?_ _) | (with_reducible refine Kd.C_drewN ?_ _) | (with_reducible refine Kd.C_drew ?_)))
     (case aB => exact (by repeat (with_reducible first | exact HB.out | apply Y3 | apply Y1 | apply Y2)))
     (case aF => exact (fun k_ hk => Kd.fresh' (Kd.R_lt (by (with_reducible repeat (first | apply Kd.R_alloc | apply Y6 | apply Y7)); exact HO261.out)) k_ hk))
     (case aO => exact (by (with_reducible repeat (first | apply Kd.R_alloc | apply Y6 | apply Y7)); exact Kd.R_mono HO_3.out (fun _ hk => hk.2)))
     (case aS => exact (below_size (by repeat (with_reducible first | exact HB.out | apply Y3 | apply Y1 | apply Y2))))
     (case aL => have := LMc24.out; omega)
     intro v263 w28 ho hb hg hat
     rw [← Ny262.out] at ho
     have n0_ := Y0 (Kd.R_after (ok := (fun _ => True)) (by (with_reducible repeat (first | apply Kd.R_alloc | apply Y6 | apply Y7)); exact HO261.out) hg hat)
     have n1_ := Y0 (hb)
     have n2_ := Y0 (ho)
     clear HO261
     clear HB
     clear HO_3
     have HO261 := n0_
     have HB := n1_
     have HO264 := n2_
     clear n0_ n1_ n2_
     clear ho hb hg hat
     refine hK.out _ _ trivial (fun hHeld => ?_)
     clear hK K
     refine norm_ (a' := ?_) ?_ ?_
     rotate_left
     ·show Act.put _ (some 38) _ = _
      simp only [Act.put, Y14, Y15, Y16, i64_w]
      rfl
     refine pure_ (i := 11) (N := some 3) (v := ?_) (a' := ?_) (sqB 12 4095) rfl rfl (any_of HT_.out (by kernel_rfl)) (fun _ _ _ h => h) (Or.inl ⟨by rfl, ?_⟩) ?_ ?_
     rotate_left
     ·intro w'
      go_simp
      with_reducible rfl
     rotate_left
     ·simp only [Act.put, Y14, Y15, Y16, i64_w]
      rfl
     refine done_ (done_of HT_.out (by kernel_rfl)) ?_
     try go_wp2
     go_roundg kj12
     case measure => have := HK1.out; have := HJ12.out; omega
     case rel => exact ⟨(y262), (wrap64 (x5_1 + 1)), (by first | rfl | (simp; done) | (simp [*]; done)), H', ⟨by have := HK1.out; have := HJ12.out; omega⟩, ⟨by (with_reducible repeat (first | apply Kd.R_alloc | apply Y6 | apply Y7)); exact Kd.R_mono HO264.out (fun _ hk => trivial)⟩, ⟨by repeat (with_reducible first | exact HB.out | apply Y3 | apply Y1 | apply Y2)⟩⟩
mutual
def truffleref14_text.l0 : Nat → ByteArray → Int → Int → ByteArray → Int → Int → List (S39) → Option (ByteArray)
 | 0, _, _, _, _, _, _, _ => none
 | k + 1, x3, x4, x416000, x416001, x416002, x416003, x416004 => if x4 < (x416004.length : Int) then (if x4 > 0 then (if x3.size + 1 ≤ 9223372036854775807 then (if 0 ≤ x4 then ((truffleref14_text.f k ((rd_T39 x416004 x4).f0) ((rd_T39 x416004 x4).f1) ((rd_T39 x416004 x4).f2) ((rd_T39 x416004 x4).f3) ((rd_T39 x416004 x4).f4)).bind fun t418 => (if (x3 ++ (⟨#[32]⟩ : ByteArray)).size + t418.size ≤ 9223372036854775807 then (truffleref14_text.l0 k ((x3 ++ (⟨#[32]⟩ : ByteArray)) ++ t418) (wrap64 (x4 + 1)) x416000 x416001 x416002 x416003 x416004) else (none))) else (none)) else (none)) else (if 0 ≤ x4 then ((truffleref14_text.f k ((rd_T39 x416004 x4).f0) ((rd_T39 x416004 x4).f1) ((rd_T39 x416004 x4).f2) ((rd_T39 x416004 x4).f3) ((rd_T39 x416004 x4).f4)).bind fun t420 => (if x3.size + t420.size ≤ 9223372036854775807 then (truffleref14_text.l0 k (x3 ++ t420) (wrap64 (x4 + 1)) x416000 x416001 x416002 x416003 x416004) else (none))) else (none))) else (if x3.size + 1 ≤ 9223372036854775807 then (some (x3 ++ (⟨#[41]⟩ : ByteArray))) else (none))
def truffleref14_text.f : Nat → Int → ByteArray → Int → Int → List (S39) → Option (ByteArray)
 | 0, _, _, _, _, _ => none
 | k + 1, a0_0, a0_1, a0_2, a0_3, l0_4 => if a0_0 = 2 then ((truffleref06_Quote.f k a0_1).bind fun t416 => (some t416)) else (if a0_0 = 4 then (truffleref14_text.l0 k (⟨#[40]⟩ : ByteArray) 0 a0_0 a0_1 a0_2 a0_3 l0_4) else (some a0_1))
end
set_option maxHeartbeats 8000000 in
set_option maxRecDepth 100000 in
theorem truffleref14_text.calls (k : Nat) : ∀ (a0_0 : Int) (a0_1 : ByteArray) (a0_2 : Int) (a0_3 : Int) (A0_4 : Option Addr) (c0_4 : Nat) (l0_4 : List (S39)) (r : ByteArray) (w : World) (hr0_4 : Kd.C k39 w A0_4 l0_4.length l0_4) (hc0_4 : l0_4.length ≤ c0_4) (h : truffleref14_text.f k a0_0 a0_1 a0_2 a0_3 l0_4 = some r),
  Calls Tryd.prog 52 #[.agg #[.int .i64 a0_0, .string a0_1, .int .i64 a0_2, .int .i64 a0_3, .slice A0_4 l0_4.length c0_4]] w fun e w' => e = .returned (.string r) ∧ Below w.heap.size w w' := by
 induction k using Nat.strongRecOn with
 | _ k ih =>
 intro a0_0 a0_1 a0_2 a0_3 A0_4 c0_4 l0_4 r w hr0_4 hc0_4 h
 cases k with
 | zero => exact absurd h (by simp [truffleref14_text.f])
 | succ k =>
 simp only [truffleref14_text.f] at h
 have hu39 := Tryd.underlying39
 have HR0_4 := Y0 hr0_4
 have HC0_4 := Y0 hc0_4
 clear hr0_4 hc0_4
 have HB := Y0 (Below.refl w.heap.size w)
 have H : (if a0_0 = 2 then ((truffleref06_Quote.f k a0_1).bind fun t416 => (some t416)) else (if a0_0 = 4 then (truffleref14_text.l0 k (⟨#[40]⟩ : ByteArray) 0 a0_0 a0_1 a0_2 a0_3 l0_4) else (some a0_1))) = some r := h
 clear h
 by_cases c2 : a0_0 = 2
 ·rw [if_pos c2] at H
  have c2b0 : (a0_0 == 2) = true := beq_iff_eq.mpr c2
  have c2b1 : (a0_0 != 2) = false := bne_eq_false_iff_eq.mpr c2
  clear c2
  replace H := Y17.mp H
  obtain ⟨t416, A30, H⟩ := H
  try dsimp only at H
  have A3 := Y0 A30
  clear A30
  obtain rfl := Option.some.inj H
  go_enter Tryd.func52, Tryd.ntmps52
  go_wp2_with (first | ((with_reducible refine gate_dst (N := 1) rfl ?_); refine box_event ?hg (N := 1) ?hd (cs := #[.int .i64 a0_0, .string a0_1, .int .i64 a0_2, .int .i64 a0_3, .slice A0_4 l0_4.length c0_4]) (t := 39) ?hr ?_; (case hd => rfl); (case hg => rfl); (case hr => first | (go_simp; done) | (go_simp; rfl)); intro gb415 hg w4 hbox hb; have n0_ := Y0 (below_step (by repeat (with_reducible first | exact HB.out | apply Y3 | apply Y1 | apply Y2)) hb); have n1_ := Y0 (hbox); have n2_ := Y0 ((by rw [hg]; exact (below_size (by repeat (with_reducible first | exact HB.out | apply Y3 | apply Y1 | apply Y2))) : w.heap.size ≤ gb415)); have n3_ := Y0 ((by rw [hg]; exact (below_size (by repeat (with_reducible first | exact HB.out | apply Y3 | apply Y1 | apply Y2))) : w.heap.size ≤ gb415)); clear HB; have HB := n0_; have BK415 := n1_; have GW415 := n2_; have GE415 := n3_; clear n0_ n1_ n2_ n3_; clear hb hbox hg; have ⟨hcz5_0, hcz5_1, hcz5_2, hcz5_3, hcz5_4, hfz5_0, hfz5_1, hfz5_2, hfz5_3, hfz5_4⟩ := sq_box5 BK415.out) | ((with_reducible refine gate_callee (f := 20) rfl ?_); refine goesL_ (some 10) rfl rfl Tryd.func20 (by kernel_rfl) rfl #[.string a0_1] rfl (by (try simp only [List.map_toArray, List.map_cons, List.map_nil]); first | done | rfl | (simp only [List.length_drop, List.length_take]; rfl)) ?_; (with_reducible refine (truffleref06_Quote.calls k a0_1 t416 _ A3.out).mono ?_); rintro e w6 ⟨rfl, hb⟩; refine ⟨_, rfl, ?_⟩; have n0_ := Y0 (blk_below (g := gb415) (o := .cells #[.int .i64 a0_0, .string a0_1, .int .i64 a0_2, .int .i64 a0_3, .slice A0_4 l0_4.length c0_4] 39 (0, 0)) (by (with_reducible repeat first | apply Y11 | apply Y13 | apply Y12); exact BK415.out) hb); have n1_ := Y0 (below_step (by repeat (with_reducible first | exact HB.out | apply Y3 | apply Y1 | apply Y2 | refine Y4 ?_ GE415.out)) hb); clear BK415; clear HB; have BK415 := n0_; have HB := n1_; clear n0_ n1_; (try clear hb); (try clear hb2); (try clear hk); (try clear hi)))
  go_ret
  exact ⟨by first | rfl | (simp [] <;> rfl) | (simp [*] <;> rfl), by repeat (with_reducible first | exact HB.out | apply Y3 | apply Y1 | apply Y2 | refine Y4 ?_ GE415.out)⟩
 rw [if_neg c2] at H
 have c2b0 : (a0_0 == 2) = false := beq_eq_false_iff_ne.mpr c2
 have c2b1 : (a0_0 != 2) = true := bne_iff_ne.mpr c2
 by_cases c7 : a0_0 = 4
 rotate_left
 ·rw [if_neg c7] at H
  have c7b0 : (a0_0 == 4) = false := beq_eq_false_iff_ne.mpr c7
  have c7b1 : (a0_0 != 4) = true := bne_iff_ne.mpr c7
  obtain rfl := Option.some.inj H
  go_enter Tryd.func52, Tryd.ntmps52
  go_wp2_with (first | ((with_reducible refine gate_dst (N := 1) rfl ?_); refine box_event ?hg (N := 1) ?hd (cs := #[.int .i64 a0_0, .string a0_1, .int .i64 a0_2, .int .i64 a0_3, .slice A0_4 l0_4.length c0_4]) (t := 39) ?hr ?_; (case hd => rfl); (case hg => rfl); (case hr => first | (go_simp; done) | (go_simp; rfl)); intro gb415 hg w25 hbox hb; have n0_ := Y0 (below_step (by repeat (with_reducible first | exact HB.out | apply Y3 | apply Y1 | apply Y2)) hb); have n1_ := Y0 (hbox); have n2_ := Y0 ((by rw [hg]; exact (below_size (by repeat (with_reducible first | exact HB.out | apply Y3 | apply Y1 | apply Y2))) : w.heap.size ≤ gb415)); have n3_ := Y0 ((by rw [hg]; exact (below_size (by repeat (with_reducible first | exact HB.out | apply Y3 | apply Y1 | apply Y2))) : w.heap.size ≤ gb415)); clear HB; have HB := n0_; have BK415 := n1_; have GW415 := n2_; have GE415 := n3_; clear n0_ n1_ n2_ n3_; clear hb hbox hg; have ⟨hcz26_0, hcz26_1, hcz26_2, hcz26_3, hcz26_4, hfz26_0, hfz26_1, hfz26_2, hfz26_3, hfz26_4⟩ := sq_box5 BK415.out))
  go_ret
  exact ⟨by first | rfl | (simp [] <;> rfl) | (simp [*] <;> rfl), by repeat (with_reducible first | exact HB.out | apply Y3 | apply Y1 | apply Y2 | refine Y4 ?_ GE415.out)⟩
 rw [if_pos c7] at H
 have c7b0 : (a0_0 == 4) = true := beq_iff_eq.mpr c7
 have c7b1 : (a0_0 != 4) = false := bne_eq_false_iff_eq.mpr c7
 clear c7
 have H' := Y0 H
 clear H
 go_enter Tryd.func52, Tryd.ntmps52
 go_wp2_with (first | ((with_reducible refine gate_dst (N := 1) rfl ?_); refine box_event ?hg (N := 1) ?hd (cs := #[.int .i64 a0_0, .string a0_1, .int .i64 a0_2, .int .i64 a0_3, .slice A0_4 l0_4.length c0_4]) (t := 39) ?hr ?_; (case hd => rfl); (case hg => rfl); (case hr => first | (go_simp; done) | (go_simp; rfl)); intro gb415 hg w8 hbox hb; have n0_ := Y0 (below_step (by repeat (with_reducible first | exact HB.out | apply Y3 | apply Y1 | apply Y2)) hb); have n1_ := Y0 (hbox); have n2_ := Y0 ((by rw [hg]; exact (below_size (by repeat (with_reducible first | exact HB.out | apply Y3 | apply Y1 | apply Y2))) : w.heap.size ≤ gb415)); have n3_ := Y0 ((by rw [hg]; exact (below_size (by repeat (with_reducible first | exact HB.out | apply Y3 | apply Y1 | apply Y2))) : w.heap.size ≤ gb415)); clear HB; have HB := n0_; have BK415 := n1_; have GW415 := n2_; have GE415 := n3_; clear n0_ n1_ n2_ n3_; clear hb hbox hg; have ⟨hcz9_0, hcz9_1, hcz9_2, hcz9_3, hcz9_4, hfz9_0, hfz9_1, hfz9_2, hfz9_3, hfz9_4⟩ := sq_box5 BK415.out))
 go_loopg [3, 4] k (fun kq v3 v4 w' => ∃ (x3_1 : ByteArray) (x4_1 : Int), v3 = .string x3_1 ∧ v4 = .int .i64 x4_1 ∧ Aside0 (truffleref14_text.l0 kq x3_1 x4_1 a0_0 a0_1 a0_2 a0_3 l0_4 = some r) ∧ Aside0 (kq ≤ k) ∧ Aside0 (w'.heap[gb415]? = some (.cells #[.int .i64 a0_0, .string a0_1, .int .i64 a0_2, .int .i64 a0_3, (.slice A0_4 l0_4.length c0_4)] 39 (0, 0))) ∧ Aside0 (Below w.heap.size w w'))
 case atStart => exact ⟨((⟨#[40]⟩ : ByteArray)), (0), (by first | rfl | (simp; done) | (simp [*]; done)), (by first | rfl | (simp; done) | (simp [*]; done)), H', ⟨Nat.le_refl _⟩, ⟨by (with_reducible repeat first | apply Y11 | apply Y13 | apply Y12); exact BK415.out⟩, ⟨by repeat (with_reducible first | exact HB.out | apply Y3 | apply Y1 | apply Y2 | refine Y4 ?_ GE415.out)⟩⟩
 case round =>
  clear H'
  obtain ⟨x3_1, x4_1, rfl, rfl, HA, HK1, BK415, HB⟩ := hrel
  cases gk with
  | zero => exact absurd HA.out (by simp [truffleref14_text.l0])
  | succ k1 =>
   have H := HA.out
   clear HA
   simp only [truffleref14_text.l0] at H
   by_cases c10 : x4_1 < (l0_4.length : Int)
   rotate_left
   ·rw [if_neg c10] at H
    have c10b0 : decide (x4_1 < (l0_4.length : Int)) = false := decide_eq_false c10
    clear c10
    by_cases c23 : x3_1.size + 1 ≤ 9223372036854775807
    rotate_left
    ·rw [if_neg c23] at H
     exact absurd H (by simp)
    rw [if_pos c23] at H
    have c23b0 := eq_true c23
    have c23b1 : decide (x3_1.size + 1 ≤ 9223372036854775807) = true := decide_eq_true c23
    try have c23b2 : (9223372036854775807 < x3_1.size + 1) = False := eq_false (Nat.not_lt.2 c23)
    obtain rfl := Option.some.inj H
    have ⟨hcz24_0, hcz24_1, hcz24_2, hcz24_3, hcz24_4, hfz24_0, hfz24_1, hfz24_2, hfz24_3, hfz24_4⟩ := sq_box5 BK415.out
    go_wp2
    go_ret
    exact ⟨by first | rfl | (simp [] <;> rfl) | (simp [*] <;> rfl), by repeat (with_reducible first | exact HB.out | apply Y3 | apply Y1 | apply Y2 | refine Y4 ?_ GE415.out)⟩
   rw [if_pos c10] at H
   have c10b0 : decide (x4_1 < (l0_4.length : Int)) = true := decide_eq_true c10
   clear c10
   by_cases c11 : x4_1 > 0
   rotate_left
   ·rw [if_neg c11] at H
    have c11b0 : decide (0 < x4_1) = false := decide_eq_false c11
    clear c11
    by_cases c18 : 0 ≤ x4_1
    rotate_left
    ·rw [if_neg c18] at H
     exact absurd H (by simp)
    rw [if_pos c18] at H
    have c18b0 : decide (0 ≤ x4_1) = true := decide_eq_true c18
    clear c18
    replace H := Y17.mp H
    obtain ⟨t420, A190, H⟩ := H
    try dsimp only at H
    have A19 := Y0 A190
    clear A190
    by_cases c20 : x3_1.size + t420.size ≤ 9223372036854775807
    rotate_left
    ·rw [if_neg c20] at H
     exact absurd H (by simp)
    rw [if_pos c20] at H
    have c20b0 := eq_true c20
    have c20b1 : decide (x3_1.size + t420.size ≤ 9223372036854775807) = true := decide_eq_true c20
    try have c20b2 : (9223372036854775807 < x3_1.size + t420.size) = False := eq_false (Nat.not_lt.2 c20)
    have H' := Y0 H
    clear H
    have ⟨hcz21_0, hcz21_1, hcz21_2, hcz21_3, hcz21_4, hfz21_0, hfz21_1, hfz21_2, hfz21_3, hfz21_4⟩ := sq_box5 BK415.out
    have p419 : 0 ≤ (x4_1 : Int) := of_decide_eq_true (by first | (with_reducible assumption) | assumption)
    have q419 : x4_1 < (l0_4.length : Int) := of_decide_eq_true (by first | (with_reducible assumption) | assumption)
    obtain ⟨ad419, A419_4, c419_4, e419, hx419_0, hx419_1, hx419_2, hx419_3, hx419_4, hl419_4, hi419_4⟩ := at_T39 HR0_4.out x4_1 p419 q419
    cases e419
    replace hx419_0 := (HB.out.cell (World.block_lt_of_cell? w _ hx419_0)).trans hx419_0
    replace hx419_1 := (HB.out.cell (World.block_lt_of_cell? w _ hx419_1)).trans hx419_1
    replace hx419_2 := (HB.out.cell (World.block_lt_of_cell? w _ hx419_2)).trans hx419_2
    replace hx419_3 := (HB.out.cell (World.block_lt_of_cell? w _ hx419_3)).trans hx419_3
    replace hx419_4 := (HB.out.cell (World.block_lt_of_cell? w _ hx419_4)).trans hx419_4
    have HR419_4 := Y0 hi419_4
    have HC419_4 := Y0 hl419_4
    clear hi419_4 hl419_4
    replace p419 := eq_true p419
    replace q419 := eq_true q419
    go_wp2_with (first | ((with_reducible refine gate_callee (f := 52) rfl ?_); refine goesL_ (some 33) rfl rfl Tryd.func52 (by kernel_rfl) rfl #[.agg #[.int .i64 ((rd_T39 l0_4 x4_1).f0), .string ((rd_T39 l0_4 x4_1).f1), .int .i64 ((rd_T39 l0_4 x4_1).f2), .int .i64 ((rd_T39 l0_4 x4_1).f3), .slice A419_4 ((rd_T39 l0_4 x4_1).f4).length c419_4]] rfl (by (try simp only [List.map_toArray, List.map_cons, List.map_nil]); first | done | rfl | (simp only [List.length_drop, List.length_take]; rfl)) ?_; (with_reducible refine (ih k1 (by have := HK1.out; omega) ((rd_T39 l0_4 x4_1).f0) ((rd_T39 l0_4 x4_1).f1) ((rd_T39 l0_4 x4_1).f2) ((rd_T39 l0_4 x4_1).f3) _ _ ((rd_T39 l0_4 x4_1).f4) t420 _ ?side1 ?side2 A19.out).mono ?_); (case side1 => repeat (first | exact (Kd.C_below HR419_4.out HB.out) | (with_reducible refine Kd.C_alloc ?_ _) | (with_reducible refine Kd.C_drewN ?_ _) | (with_reducible refine Kd.C_drew ?_))); (case side2 => exact HC419_4.out); rintro e w22 ⟨rfl, hb⟩; refine ⟨_, rfl, ?_⟩; have n0_ := Y0 (blk_below (g := gb415) (o := .cells #[.int .i64 a0_0, .string a0_1, .int .i64 a0_2, .int .i64 a0_3, .slice (some ad419) l0_4.length c0_4] 39 (0, 0)) (by (with_reducible repeat first | apply Y11 | apply Y13 | apply Y12); exact BK415.out) hb); have n1_ := Y0 (below_step (by repeat (with_reducible first | exact HB.out | apply Y3 | apply Y1 | apply Y2 | refine Y4 ?_ GE415.out)) hb); clear BK415; clear HB; have BK415 := n0_; have HB := n1_; clear n0_ n1_; (try clear hb); (try clear hb2); (try clear hk); (try clear hi)))
    go_roundg k1
    case measure => have := HK1.out; omega
    case rel => exact ⟨(x3_1 ++ t420), (wrap64 (x4_1 + 1)), (by first | rfl | (simp; done) | (simp [*]; done)), (by first | rfl | (simp; done) | (simp [*]; done)), H', ⟨by have := HK1.out; omega⟩, ⟨by (with_reducible repeat first | apply Y11 | apply Y13 | apply Y12); exact BK415.out⟩, ⟨by repeat (with_reducible first | exact HB.out | apply Y3 | apply Y1 | apply Y2 | refine Y4 ?_ GE415.out)⟩⟩
   rw [if_pos c11] at H
   have c11b0 : decide (0 < x4_1) = true := decide_eq_true c11
   clear c11
   by_cases c12 : x3_1.size + 1 ≤ 9223372036854775807
   rotate_left
   ·rw [if_neg c12] at H
    exact absurd H (by simp)
   rw [if_pos c12] at H
   have c12b0 := eq_true c12
   have c12b1 : decide (x3_1.size + 1 ≤ 9223372036854775807) = true := decide_eq_true c12
   try have c12b2 : (9223372036854775807 < x3_1.size + 1) = False := eq_false (Nat.not_lt.2 c12)
   by_cases c13 : 0 ≤ x4_1
   rotate_left
   ·rw [if_neg c13] at H
    exact absurd H (by simp)
   rw [if_pos c13] at H
   have c13b0 : decide (0 ≤ x4_1) = true := decide_eq_true c13
   clear c13
   replace H := Y17.mp H
   obtain ⟨t418, A140, H⟩ := H
   try dsimp only at H
   have A14 := Y0 A140
   clear A140
   by_cases c15 : (x3_1 ++ (⟨#[32]⟩ : ByteArray)).size + t418.size ≤ 9223372036854775807
   rotate_left
   ·rw [if_neg c15] at H
    exact absurd H (by simp)
   rw [if_pos c15] at H
   have c15b0 := eq_true c15
   have c15b1 : decide ((x3_1 ++ (⟨#[32]⟩ : ByteArray)).size + t418.size ≤ 9223372036854775807) = true := decide_eq_true c15
   try have c15b2 : (9223372036854775807 < (x3_1 ++ (⟨#[32]⟩ : ByteArray)).size + t418.size) = False := eq_false (Nat.not_lt.2 c15)
   try have c15b3 : (9223372036854775807 < x3_1.size + 1 + t418.size) = False := eq_false (by have e_ : ∀ a b : ByteArray, (a ++ b).size = a.size + b.size := fun a b => ByteArray.size_append; have h_ := c15; simp only [e_] at h_; exact Nat.not_lt.2 h_)
   have H' := Y0 H
   clear H
   have ⟨hcz16_0, hcz16_1, hcz16_2, hcz16_3, hcz16_4, hfz16_0, hfz16_1, hfz16_2, hfz16_3, hfz16_4⟩ := sq_box5 BK415.out
   have p417 : 0 ≤ (x4_1 : Int) := of_decide_eq_true (by first | (with_reducible assumption) | assumption)
   have q417 : x4_1 < (l0_4.length : Int) := of_decide_eq_true (by first | (with_reducible assumption) | assumption)
   obtain ⟨ad417, A417_4, c417_4, e417, hx417_0, hx417_1, hx417_2, hx417_3, hx417_4, hl417_4, hi417_4⟩ := at_T39 HR0_4.out x4_1 p417 q417
   cases e417
   replace hx417_0 := (HB.out.cell (World.block_lt_of_cell? w _ hx417_0)).trans hx417_0
   replace hx417_1 := (HB.out.cell (World.block_lt_of_cell? w _ hx417_1)).trans hx417_1
   replace hx417_2 := (HB.out.cell (World.block_lt_of_cell? w _ hx417_2)).trans hx417_2
   replace hx417_3 := (HB.out.cell (World.block_lt_of_cell? w _ hx417_3)).trans hx417_3
   replace hx417_4 := (HB.out.cell (World.block_lt_of_cell? w _ hx417_4)).trans hx417_4
   have HR417_4 := Y0 hi417_4
   have HC417_4 := Y0 hl417_4
   clear hi417_4 hl417_4
   replace p417 := eq_true p417
   replace q417 := eq_true q417
   go_wp2_with (first | ((with_reducible refine gate_callee (f := 52) rfl ?_); refine goesL_ (some 33) rfl rfl Tryd.func52 (by kernel_rfl) rfl #[.agg #[.int .i64 ((rd_T39 l0_4 x4_1).f0), .string ((rd_T39 l0_4 x4_1).f1), .int .i64 ((rd_T39 l0_4 x4_1).f2), .int .i64 ((rd_T39 l0_4 x4_1).f3), .slice A417_4 ((rd_T39 l0_4 x4_1).f4).length c417_4]] rfl (by (try simp only [List.map_toArray, List.map_cons, List.map_nil]); first | done | rfl | (simp only [List.length_drop, List.length_take]; rfl)) ?_; (with_reducible refine (ih k1 (by have := HK1.out; omega) ((rd_T39 l0_4 x4_1).f0) ((rd_T39 l0_4 x4_1).f1) ((rd_T39 l0_4 x4_1).f2) ((rd_T39 l0_4 x4_1).f3) _ _ ((rd_T39 l0_4 x4_1).f4) t418 _ ?side1 ?side2 A14.out).mono ?_); (case side1 => repeat (first | exact (Kd.C_below HR417_4.out HB.out) | (with_reducible refine Kd.C_alloc ?_ _) | (with_reducible refine Kd.C_drewN ?_ _) | (with_reducible refine Kd.C_drew ?_))); (case side2 => exact HC417_4.out); rintro e w17 ⟨rfl, hb⟩; refine ⟨_, rfl, ?_⟩; have n0_ := Y0 (blk_below (g := gb415) (o := .cells #[.int .i64 a0_0, .string a0_1, .int .i64 a0_2, .int .i64 a0_3, .slice (some ad417) l0_4.length c0_4] 39 (0, 0)) (by (with_reducible repeat first | apply Y11 | apply Y13 | apply Y12); exact BK415.out) hb); have n1_ := Y0 (below_step (by repeat (with_reducible first | exact HB.out | apply Y3 | apply Y1 | apply Y2 | refine Y4 ?_ GE415.out)) hb); clear BK415; clear HB; have BK415 := n0_; have HB := n1_; clear n0_ n1_; (try clear hb); (try clear hb2); (try clear hk); (try clear hi)))
   go_roundg k1
   case measure => have := HK1.out; omega
   case rel => exact ⟨((x3_1 ++ (⟨#[32]⟩ : ByteArray)) ++ t418), (wrap64 (x4_1 + 1)), (by first | rfl | (simp; done) | (simp [*]; done)), (by first | rfl | (simp; done) | (simp [*]; done)), H', ⟨by have := HK1.out; omega⟩, ⟨by (with_reducible repeat first | apply Y11 | apply Y13 | apply Y12); exact BK415.out⟩, ⟨by repeat (with_reducible first | exact HB.out | apply Y3 | apply Y1 | apply Y2 | refine Y4 ?_ GE415.out)⟩⟩
def truffleref14_Print.f (k : Nat) (a0_0 : Int) (a0_1 : ByteArray) (a0_2 : Int) (a0_3 : Int) (l0_4 : List (S39)) : Option (ByteArray) := (truffleref14_May.f k a0_0 a0_1 a0_2 a0_3 l0_4).bind fun t422 => (if t422 = true then ((truffleref14_text.f k a0_0 a0_1 a0_2 a0_3 l0_4).bind fun t423 => (some t423)) else (some (⟨#[]⟩ : ByteArray)))
set_option maxHeartbeats 8000000 in
set_option maxRecDepth 100000 in
theorem truffleref14_Print.calls (k : Nat) (a0_0 : Int) (a0_1 : ByteArray) (a0_2 : Int) (a0_3 : Int) (A0_4 : Option Addr) (c0_4 : Nat) (l0_4 : List (S39)) (r : ByteArray) (w : World) (hr0_4 : Kd.C k39 w A0_4 l0_4.length l0_4) (hc0_4 : l0_4.length ≤ c0_4) (h : truffleref14_Print.f k a0_0 a0_1 a0_2 a0_3 l0_4 = some r) :
  Calls Tryd.prog 31 #[.agg #[.int .i64 a0_0, .string a0_1, .int .i64 a0_2, .int .i64 a0_3, .slice A0_4 l0_4.length c0_4]] w fun e w' => e = .returned (.string r) ∧ Below w.heap.size w w' := by
 have hu39 := Tryd.underlying39
 have HR0_4 := Y0 hr0_4
 have HC0_4 := Y0 hc0_4
 clear hr0_4 hc0_4
 have HB := Y0 (Below.refl w.heap.size w)
 have H : ((truffleref14_May.f k a0_0 a0_1 a0_2 a0_3 l0_4).bind fun t422 => (if t422 = true then ((truffleref14_text.f k a0_0 a0_1 a0_2 a0_3 l0_4).bind fun t423 => (some t423)) else (some (⟨#[]⟩ : ByteArray)))) = some r := h
 clear h
 replace H := Y17.mp H
 obtain ⟨t422, A20, H⟩ := H
 try dsimp only at H
 have A2 := Y0 A20
 clear A20
 by_cases c3 : t422 = true
 rotate_left
 ·replace c3 := Bool.eq_false_iff.mpr c3
  subst c3
  rw [if_neg (show ¬ (false = true) by decide)] at H
  obtain rfl := Option.some.inj H
  go_enter Tryd.func31, Tryd.ntmps31
  go_wp2_with (first | ((with_reducible refine gate_dst (N := 1) rfl ?_); refine box_event ?hg (N := 1) ?hd (cs := #[.int .i64 a0_0, .string a0_1, .int .i64 a0_2, .int .i64 a0_3, .slice A0_4 l0_4.length c0_4]) (t := 39) ?hr ?_; (case hd => rfl); (case hg => rfl); (case hr => first | (go_simp; done) | (go_simp; rfl)); intro gb421 hg w10 hbox hb; have n0_ := Y0 (below_step (by repeat (with_reducible first | exact HB.out | apply Y3 | apply Y1 | apply Y2)) hb); have n1_ := Y0 (hbox); have n2_ := Y0 ((by rw [hg]; exact (below_size (by repeat (with_reducible first | exact HB.out | apply Y3 | apply Y1 | apply Y2))) : w.heap.size ≤ gb421)); have n3_ := Y0 ((by rw [hg]; exact (below_size (by repeat (with_reducible first | exact HB.out | apply Y3 | apply Y1 | apply Y2))) : w.heap.size ≤ gb421)); clear HB; have HB := n0_; have BK421 := n1_; have GW421 := n2_; have GE421 := n3_; clear n0_ n1_ n2_ n3_; clear hb hbox hg; have ⟨hcz11_0, hcz11_1, hcz11_2, hcz11_3, hcz11_4, hfz11_0, hfz11_1, hfz11_2, hfz11_3, hfz11_4⟩ := sq_box5 BK421.out) | ((with_reducible refine gate_callee (f := 29) rfl ?_); refine goesL_ (some 5) rfl rfl Tryd.func29 (by kernel_rfl) rfl #[.agg #[.int .i64 a0_0, .string a0_1, .int .i64 a0_2, .int .i64 a0_3, .slice A0_4 l0_4.length c0_4]] rfl (by (try simp only [List.map_toArray, List.map_cons, List.map_nil]); first | done | rfl | (simp only [List.length_drop, List.length_take]; rfl)) ?_; (with_reducible refine (truffleref14_May.calls k a0_0 a0_1 a0_2 a0_3 _ _ l0_4 false _ ?side1 ?side2 A2.out).mono ?_); (case side1 => repeat (first | exact (Kd.C_below HR0_4.out HB.out) | (with_reducible refine Kd.C_alloc ?_ _) | (with_reducible refine Kd.C_drewN ?_ _) | (with_reducible refine Kd.C_drew ?_))); (case side2 => exact HC0_4.out); rintro e w12 ⟨rfl, hb⟩; refine ⟨_, rfl, ?_⟩; have n0_ := Y0 (blk_below (g := gb421) (o := .cells #[.int .i64 a0_0, .string a0_1, .int .i64 a0_2, .int .i64 a0_3, .slice A0_4 l0_4.length c0_4] 39 (0, 0)) (by (with_reducible repeat first | apply Y11 | apply Y13 | apply Y12); exact BK421.out) hb); have n1_ := Y0 (below_step (by repeat (with_reducible first | exact HB.out | apply Y3 | apply Y1 | apply Y2 | refine Y4 ?_ GE421.out)) hb); clear BK421; clear HB; have BK421 := n0_; have HB := n1_; clear n0_ n1_; (try clear hb); (try clear hb2); (try clear hk); (try clear hi)))
  go_ret
  exact ⟨by first | rfl | (simp [] <;> rfl) | (simp [*] <;> rfl), by repeat (with_reducible first | exact HB.out | apply Y3 | apply Y1 | apply Y2 | refine Y4 ?_ GE421.out)⟩
 subst c3
 rw [if_pos rfl] at H
 replace H := Y17.mp H
 obtain ⟨t423, A40, H⟩ := H
 try dsimp only at H
 have A4 := Y0 A40
 clear A40
 obtain rfl := Option.some.inj H
 go_enter Tryd.func31, Tryd.ntmps31
 go_wp2_with (first | ((with_reducible refine gate_dst (N := 1) rfl ?_); refine box_event ?hg (N := 1) ?hd (cs := #[.int .i64 a0_0, .string a0_1, .int .i64 a0_2, .int .i64 a0_3, .slice A0_4 l0_4.length c0_4]) (t := 39) ?hr ?_; (case hd => rfl); (case hg => rfl); (case hr => first | (go_simp; done) | (go_simp; rfl)); intro gb421 hg w5 hbox hb; have n0_ := Y0 (below_step (by repeat (with_reducible first | exact HB.out | apply Y3 | apply Y1 | apply Y2)) hb); have n1_ := Y0 (hbox); have n2_ := Y0 ((by rw [hg]; exact (below_size (by repeat (with_reducible first | exact HB.out | apply Y3 | apply Y1 | apply Y2))) : w.heap.size ≤ gb421)); have n3_ := Y0 ((by rw [hg]; exact (below_size (by repeat (with_reducible first | exact HB.out | apply Y3 | apply Y1 | apply Y2))) : w.heap.size ≤ gb421)); clear HB; have HB := n0_; have BK421 := n1_; have GW421 := n2_; have GE421 := n3_; clear n0_ n1_ n2_ n3_; clear hb hbox hg; have ⟨hcz6_0, hcz6_1, hcz6_2, hcz6_3, hcz6_4, hfz6_0, hfz6_1, hfz6_2, hfz6_3, hfz6_4⟩ := sq_box5 BK421.out) | ((with_reducible refine gate_callee (f := 29) rfl ?_); refine goesL_ (some 5) rfl rfl Tryd.func29 (by kernel_rfl) rfl #[.agg #[.int .i64 a0_0, .string a0_1, .int .i64 a0_2, .int .i64 a0_3, .slice A0_4 l0_4.length c0_4]] rfl (by (try simp only [List.map_toArray, List.map_cons, List.map_nil]); first | done | rfl | (simp only [List.length_drop, List.length_take]; rfl)) ?_; (with_reducible refine (truffleref14_May.calls k a0_0 a0_1 a0_2 a0_3 _ _ l0_4 true _ ?side1 ?side2 A2.out).mono ?_); (case side1 => repeat (first | exact (Kd.C_below HR0_4.out HB.out) | (with_reducible refine Kd.C_alloc ?_ _) | (with_reducible refine Kd.C_drewN ?_ _) | (with_reducible refine Kd.C_drew ?_))); (case side2 => exact HC0_4.out); rintro e w7 ⟨rfl, hb⟩; refine ⟨_, rfl, ?_⟩; have n0_ := Y0 (blk_below (g := gb421) (o := .cells #[.int .i64 a0_0, .string a0_1, .int .i64 a0_2, .int .i64 a0_3, .slice A0_4 l0_4.length c0_4] 39 (0, 0)) (by (with_reducible repeat first | apply Y11 | apply Y13 | apply Y12); exact BK421.out) hb); have n1_ := Y0 (below_step (by repeat (with_reducible first | exact HB.out | apply Y3 | apply Y1 | apply Y2 | refine Y4 ?_ GE421.out)) hb); clear BK421; clear HB; have BK421 := n0_; have HB := n1_; clear n0_ n1_; (try clear hb); (try clear hb2); (try clear hk); (try clear hi); have ⟨hcz8_0, hcz8_1, hcz8_2, hcz8_3, hcz8_4, hfz8_0, hfz8_1, hfz8_2, hfz8_3, hfz8_4⟩ := sq_box5 BK421.out) | ((with_reducible refine gate_callee (f := 52) rfl ?_); refine goesL_ (some 9) rfl rfl Tryd.func52 (by kernel_rfl) rfl #[.agg #[.int .i64 a0_0, .string a0_1, .int .i64 a0_2, .int .i64 a0_3, .slice A0_4 l0_4.length c0_4]] rfl (by (try simp only [List.map_toArray, List.map_cons, List.map_nil]); first | done | rfl | (simp only [List.length_drop, List.length_take]; rfl)) ?_; (with_reducible refine (truffleref14_text.calls k a0_0 a0_1 a0_2 a0_3 _ _ l0_4 t423 _ ?side1 ?side2 A4.out).mono ?_); (case side1 => repeat (first | exact (Kd.C_below HR0_4.out HB.out) | (with_reducible refine Kd.C_alloc ?_ _) | (with_reducible refine Kd.C_drewN ?_ _) | (with_reducible refine Kd.C_drew ?_))); (case side2 => exact HC0_4.out); rintro e w9 ⟨rfl, hb⟩; refine ⟨_, rfl, ?_⟩; have n0_ := Y0 (blk_below (g := gb421) (o := .cells #[.int .i64 a0_0, .string a0_1, .int .i64 a0_2, .int .i64 a0_3, .slice A0_4 l0_4.length c0_4] 39 (0, 0)) (by (with_reducible repeat first | apply Y11 | apply Y13 | apply Y12); exact BK421.out) hb); have n1_ := Y0 (below_step (by repeat (with_reducible first | exact HB.out | apply Y3 | apply Y1 | apply Y2 | refine Y4 ?_ GE421.out)) hb); clear BK421; clear HB; have BK421 := n0_; have HB := n1_; clear n0_ n1_; (try clear hb); (try clear hb2); (try clear hk); (try clear hi)))
 go_ret
 exact ⟨by first | rfl | (simp [] <;> rfl) | (simp [*] <;> rfl), by repeat (with_reducible first | exact HB.out | apply Y3 | apply Y1 | apply Y2 | refine Y4 ?_ GE421.out)⟩
structure GInv (w : World) : Prop where
 syn : ∃ te pe, w.cell? ⟨1, 0, none⟩ = some (.iface te pe)
 rng : ∃ te pe, w.cell? ⟨2, 0, none⟩ = some (.iface te pe)
 tab : Lib.TabIs Tryd.prog w "internal/strconv.uint64pow10" .u64 Lib.pow10Tab
 low : 0 < w.heap.size
theorem pow10_named : Tryd.prog.globalNamed "internal/strconv.uint64pow10" = some 0 := by kernel_rfl
theorem GInv.below {w W : World} (h : GInv w) (hb : Below w.heap.size w W) : GInv W := by
 obtain ⟨⟨te, pe, h1⟩, ⟨te2, pe2, h2⟩, h3, h4⟩ := h
 exact ⟨⟨te, pe, pw_cell_below hb h1⟩, ⟨te2, pe2, pw_cell_below hb h2⟩, var?_below hb pow10_named h4 h3, Nat.lt_of_lt_of_le h4 hb.size⟩
theorem eqA29 (d : Nat) (w : World) (x0 y0 : Int) (x1 y1 : ByteArray) (x2 y2 : Int) (x3 y3 : Int) :
  (Op.equalIn (d + 2) 29 (.agg #[.int .i64 x0, .string x1, .int .i64 x2, .int .i64 x3]) (.agg #[.int .i64 y0, .string y1, .int .i64 y2, .int .i64 y3])).run Tryd.prog w = .ok (x0 == y0 && (x1.toList == y1.toList && (x2 == y2 && (x3 == y3)))) w := by
 refine eqA_of Tryd.underlying29 (by kernel_rfl) ?_
 refine eqf_cons (by rfl) (by go_simp; rfl) (by go_simp; rfl) (by go_simp) ?_
 refine eqf_cons (by rfl) (by go_simp; rfl) (by go_simp; rfl) (by go_simp) ?_
 refine eqf_cons (by rfl) (by go_simp; rfl) (by go_simp; rfl) (by go_simp) ?_
 exact eqf_last (by rfl) (by go_simp; rfl) (by go_simp; rfl) (by go_simp)
def IsS55 (w0 W : World) (g : Nat) (f0 : ByteArray) (f1 : Int) : Prop := W.heap[g]? = some (.cells #[.string f0, .int .i64 f1] 55 (0, 0)) ∧ w0.heap.size ≤ g
theorem IsS55.grown {w0 W : World} {g : Nat} {f0 : ByteArray} {f1 : Int} {W1 : World} {row : Option Nat} (h : IsS55 w0 W g f0 f1) (hw : W.grownBy W1 row) (hne : some g ≠ row) : IsS55 w0 W1 g f0 f1 := by
 obtain ⟨hb, hg⟩ := h
 exact ⟨blk_grown hb hw hne, hg⟩
theorem IsS55.below {w0 W : World} {g : Nat} {f0 : ByteArray} {f1 : Int} {W1 : World} (h : IsS55 w0 W g f0 f1) (hw : Below W.heap.size W W1) : IsS55 w0 W1 g f0 f1 := h.grown (grown_of_below hw none) (by simp)
theorem IsS55.drewN {w0 W : World} {g : Nat} {f0 : ByteArray} {f1 : Int} (h : IsS55 w0 W g f0 f1) (m : Nat) : IsS55 w0 (W.drewN m) g f0 f1 := h
theorem IsS55.drew {w0 W : World} {g : Nat} {f0 : ByteArray} {f1 : Int} (h : IsS55 w0 W g f0 f1) : IsS55 w0 W.drew g f0 f1 := h
theorem IsS55.apart {w0 W : World} {g : Nat} {f0 : ByteArray} {f1 : Int} {α : Type} {d : Kd α} {e : Nat} {base : Nat} {ok : Nat → Prop} {v : Value} {xs : List α} (h : IsS55 w0 W g f0 f1) (ho : d.R e W base ok v xs) (ht : ∀ q, q ∈ e :: d.E → q ≠ 55) : d.R e W base (fun k => ok k ∧ k ≠ g) v xs := by
 obtain ⟨hb, hg⟩ := h
 exact Kd.R_types ho hb ht
theorem IsS55.own_ne {w0 W : World} {g : Nat} {f0 : ByteArray} {f1 : Int} {α : Type} {d : Kd α} {e : Nat} {base : Nat} {ok : Nat → Prop} {v : Value} {xs : List α} (h : IsS55 w0 W g f0 f1) (ho : d.R e W base ok v xs) (ht : e ≠ 55) : some g ≠ v.ownBlock := by
 obtain ⟨hb, hg⟩ := h
 exact Kd.R_ne ho hb ht
theorem IsS55.lt {w0 W : World} {g : Nat} {f0 : ByteArray} {f1 : Int} (h : IsS55 w0 W g f0 f1) : g < W.heap.size := by
 obtain ⟨hb, hg⟩ := h
 exact blk_lt hb
theorem IsS55.ge {w0 W : World} {g : Nat} {f0 : ByteArray} {f1 : Int} (h : IsS55 w0 W g f0 f1) : w0.heap.size ≤ g := by
 obtain ⟨hb, hg⟩ := h
 exact hg
theorem IsS55.far {w0 W : World} {g : Nat} {f0 : ByteArray} {f1 : Int} {p : Addr} (h : IsS55 w0 W g f0 f1) (hne : g ≠ p.block) (u : Value) : IsS55 w0 (W.setCell p u) g f0 f1 := by
 obtain ⟨hb, hg⟩ := h
 exact ⟨blk_far hb hne u, hg⟩
theorem cellS55_0 {W : World} {g : Nat} {f0 : ByteArray} {f1 : Int} (h : W.heap[g]? = some (.cells #[.string f0, .int .i64 f1] 55 (0, 0))) : W.cell? ⟨g, 0, none⟩ = some (.string f0) := (blk_cell h 0).trans rfl
theorem cellS55_1 {W : World} {g : Nat} {f0 : ByteArray} {f1 : Int} (h : W.heap[g]? = some (.cells #[.string f0, .int .i64 f1] 55 (0, 0))) : W.cell? ⟨g, 1, none⟩ = some (.int .i64 f1) := (blk_cell h 1).trans rfl
theorem IsS55.set_1 {w0 W : World} {g : Nat} {f0 : ByteArray} {f1 : Int} (h : IsS55 w0 W g f0 f1) (x : Int) : IsS55 w0 (W.setCell ⟨g, 1, none⟩ (.int .i64 x)) g f0 x := by
 obtain ⟨hb, hg⟩ := h
 exact ⟨by simpa using blk_set hb 1 (.int .i64 x), hg⟩
theorem IsS55.new (w0 W : World) (f0 : ByteArray) (f1 : Int) (hB : Below w0.heap.size w0 W) : IsS55 w0 (W.alloc (.cells #[.string f0, .int .i64 f1] 55)) W.heap.size f0 f1 := ⟨by simpa using heap_alloc_new W _, hB.size⟩
end Go.Proofs.YtngcojabofkbjaaDoor.P
namespace Go.Proofs
open Go.Shelf Go.RowKit Go.Lib Go.Sort
def Tryd.lays137_ren : Go.Shelf.Ren := ⟨fun | 137 => 59 | 217 => 76 | 266 => 92 | n => n, fun | 9 => 9 | 5 => 5 | 3 => 3 | n => n, fun | n => n⟩
theorem Tryd.lays137 : Go.Proofs.Lays.n137 Tryd.prog Tryd.lays137_ren := {
 mixed := by kernel_rfl
 f137 := Tryd.func59.trans (congrArg some (by kernel_rfl))
 f217 := Tryd.func76.trans (congrArg some (by kernel_rfl))
 f266 := Tryd.func92.trans (congrArg some (by kernel_rfl))
 t3 := Tryd.underlying3
 a3 := Tryd.isAgg3
 z3 := Tryd.sizeOf3
 v3 := Tryd.zeroValue3
 t5 := Tryd.underlying5
 a5 := Tryd.isAgg5
 z5 := Tryd.sizeOf5
 v5 := Tryd.zeroValue5
 t9 := Tryd.underlying9
 a9 := Tryd.isAgg9
 z9 := Tryd.sizeOf9
 v9 := Tryd.zeroValue9 }
theorem Tryd.strings_IndexByte (s : ByteArray) (c : Int) (w : World) :
  Calls Tryd.prog 59 #[.string s, .int .u8 c] w fun e w' => e = .returned (.int .i64 (Lib.indexByte s.data.toList c.toNat.toUInt8)) ∧ w' = w := Any.strings_IndexByte Tryd.lays137 s c w
def Tryd.lays219_ren : Go.Shelf.Ren := ⟨fun | 219 => 93 | 217 => 76 | 225 => 105 | 224 => 106 | 267 => 107 | 266 => 92 | 314 => 112 | n => n, fun | 9 => 9 | 3 => 3 | 4 => 4 | 5 => 5 | 46 => 71 | 146 => 133 | 51 => 121 | n => n, fun | 1 => 3 | n => n⟩
theorem Tryd.lays219 : Go.Proofs.Lays.n219 Tryd.prog Tryd.lays219_ren := {
 mixed := by kernel_rfl
 f217 := Tryd.func76.trans (congrArg some (by kernel_rfl))
 f219 := Tryd.func93.trans (congrArg some (by kernel_rfl))
 f224 := Tryd.func106.trans (congrArg some (by kernel_rfl))
 f225 := Tryd.func105.trans (congrArg some (by kernel_rfl))
 f266 := Tryd.func92.trans (congrArg some (by kernel_rfl))
 f267 := Tryd.func107.trans (congrArg some (by kernel_rfl))
 f314 := Tryd.func112.trans (congrArg some (by kernel_rfl))
 t3 := Tryd.underlying3
 a3 := Tryd.isAgg3
 z3 := Tryd.sizeOf3
 v3 := Tryd.zeroValue3
 t4 := Tryd.underlying4
 a4 := Tryd.isAgg4
 z4 := Tryd.sizeOf4
 v4 := Tryd.zeroValue4
 t5 := Tryd.underlying5
 a5 := Tryd.isAgg5
 z5 := Tryd.sizeOf5
 v5 := Tryd.zeroValue5
 t9 := Tryd.underlying9
 a9 := Tryd.isAgg9
 z9 := Tryd.sizeOf9
 v9 := Tryd.zeroValue9
 t46 := Tryd.underlying71
 a46 := Tryd.isAgg71
 z46 := Tryd.sizeOf71
 v46 := Tryd.zeroValue71
 t51 := Tryd.underlying121
 a51 := Tryd.isAgg121
 z51 := Tryd.sizeOf121
 v51 := Tryd.zeroValue121
 t146 := Tryd.underlying133
 a146 := Tryd.isAgg133
 z146 := Tryd.sizeOf133
 v146 := Tryd.zeroValue133
 g1 := by kernel_rfl }
theorem Tryd.stringslite_Index_one (s : ByteArray) (c : UInt8) (w : World) :
  Calls Tryd.prog 93 #[.string s, .string ⟨#[c]⟩] w fun e w' => e = .returned (.int .i64 (Lib.indexByte s.data.toList c)) ∧ w' = w := Any.stringslite_Index_one Tryd.lays219 s c w
def Tryd.laysM173_ren : Go.Shelf.Ren := ⟨fun | 173 => 44 | 246 => 69 | 283 => 81 | 284 => 82 | 285 => 83 | 286 => 84 | 129 => 95 | 317 => 94 | 318 => 96 | 319 => 97 | 320 => 98 | 337 => 108 | 338 => 109 | n => n, fun | 2 => 2 | 3 => 3 | 9 => 9 | 4 => 4 | 171 => 105 | 0 => 0 | 53 => 101 | 37 => 63 | 5 => 5 | 173 => 108 | 212 => 120 | 51 => 121 | 20 => 20 | 213 => 122 | 46 => 71 | 232 => 135 | 233 => 136 | n => n, fun | 17 => 0 | 18 => 4 | 19 => 5 | n => n⟩
theorem Tryd.laysM173 : Go.Proofs.LaysM.n173 Tryd.prog Tryd.laysM173_ren := {
 mixed := by kernel_rfl
 f129 := Tryd.func95.trans (congrArg some (by kernel_rfl))
 f173 := Tryd.func44.trans (congrArg some (by kernel_rfl))
 f246 := Tryd.func69.trans (congrArg some (by kernel_rfl))
 f283 := Tryd.func81.trans (congrArg some (by kernel_rfl))
 f284 := Tryd.func82.trans (congrArg some (by kernel_rfl))
 f285 := Tryd.func83.trans (congrArg some (by kernel_rfl))
 f286 := Tryd.func84.trans (congrArg some (by kernel_rfl))
 f317 := Tryd.func94.trans (congrArg some (by kernel_rfl))
 f318 := Tryd.func96.trans (congrArg some (by kernel_rfl))
 f319 := Tryd.func97.trans (congrArg some (by kernel_rfl))
 f320 := Tryd.func98.trans (congrArg some (by kernel_rfl))
 f337 := Tryd.func108.trans (congrArg some (by kernel_rfl))
 f338 := Tryd.func109.trans (congrArg some (by kernel_rfl))
 t0 := Tryd.underlying0
 a0 := Tryd.isAgg0
 z0 := Tryd.sizeOf0
 v0 := Tryd.zeroValue0
 t2 := Tryd.underlying2
 a2 := Tryd.isAgg2
 z2 := Tryd.sizeOf2
 v2 := Tryd.zeroValue2
 t3 := Tryd.underlying3
 a3 := Tryd.isAgg3
 z3 := Tryd.sizeOf3
 v3 := Tryd.zeroValue3
 t4 := Tryd.underlying4
 a4 := Tryd.isAgg4
 z4 := Tryd.sizeOf4
 v4 := Tryd.zeroValue4
 t5 := Tryd.underlying5
 a5 := Tryd.isAgg5
 z5 := Tryd.sizeOf5
 v5 := Tryd.zeroValue5
 t9 := Tryd.underlying9
 a9 := Tryd.isAgg9
 z9 := Tryd.sizeOf9
 v9 := Tryd.zeroValue9
 t20 := Tryd.underlying20
 a20 := Tryd.isAgg20
 z20 := Tryd.sizeOf20
 v20 := Tryd.zeroValue20
 t37 := Tryd.underlying63
 a37 := Tryd.isAgg63
 z37 := Tryd.sizeOf63
 v37 := Tryd.zeroValue63
 t46 := Tryd.underlying71
 a46 := Tryd.isAgg71
 z46 := Tryd.sizeOf71
 v46 := Tryd.zeroValue71
 t51 := Tryd.underlying121
 a51 := Tryd.isAgg121
 z51 := Tryd.sizeOf121
 v51 := Tryd.zeroValue121
 t53 := Tryd.underlying101
 a53 := Tryd.isAgg101
 z53 := Tryd.sizeOf101
 v53 := Tryd.zeroValue101
 t171 := Tryd.underlying105
 a171 := Tryd.isAgg105
 z171 := Tryd.sizeOf105
 v171 := Tryd.zeroValue105
 t173 := Tryd.underlying108
 a173 := Tryd.isAgg108
 z173 := Tryd.sizeOf108
 v173 := Tryd.zeroValue108
 t212 := Tryd.underlying120
 a212 := Tryd.isAgg120
 z212 := Tryd.sizeOf120
 v212 := Tryd.zeroValue120
 t213 := Tryd.underlying122
 a213 := Tryd.isAgg122
 z213 := Tryd.sizeOf122
 t232 := Tryd.underlying135
 a232 := Tryd.isAgg135
 z232 := Tryd.sizeOf135
 v232 := Tryd.zeroValue135
 t233 := Tryd.underlying136
 a233 := Tryd.isAgg136
 z233 := Tryd.sizeOf136
 v233 := Tryd.zeroValue136
 g17 := by kernel_rfl
 g18 := by kernel_rfl
 g19 := by kernel_rfl
 i0 := by kernel_rfl
 i2 := by kernel_rfl
 i3 := by kernel_rfl
 i4 := by kernel_rfl
 i5 := by kernel_rfl
 i9 := by kernel_rfl
 i20 := by kernel_rfl
 i37 := by kernel_rfl
 i46 := by kernel_rfl
 i51 := by kernel_rfl
 i53 := by kernel_rfl
 i171 := by kernel_rfl
 i173 := by kernel_rfl
 i212 := by kernel_rfl
 i232 := by kernel_rfl
 i233 := by kernel_rfl
 m17 := by kernel_rfl
 m18 := by kernel_rfl
 m19 := by kernel_rfl }
theorem Tryd.strconv_FormatInt_10 (n : Int) (h0 : -9223372036854775808 ≤ n) (h1 : n ≤ 9223372036854775807) (w : World) (htab : Lib.TabIs Tryd.prog w "internal/strconv.uint64pow10" .u64 Lib.pow10Tab) :
  Calls Tryd.prog 44 #[.int .i64 n, .int .i64 10] w fun e w' => e = .returned (.string ⟨(Lib.itoa n).toArray⟩) ∧ ∃ k os, w' = grow (w.drewN k) os := Any.strconv_FormatInt_10 Tryd.laysM173 n h0 h1 w htab
def Tryd.laysC174_ren : Go.Shelf.Ren := ⟨fun | 174 => 57 | 247 => 74 | 245 => 75 | 287 => 87 | 279 => 88 | 280 => 89 | 281 => 90 | 282 => 91 | 321 => 100 | 322 => 101 | 316 => 102 | 171 => 104 | 205 => 103 | 243 => 111 | 246 => 69 | 283 => 81 | 284 => 82 | 285 => 83 | 286 => 84 | 129 => 95 | 317 => 94 | 318 => 96 | 319 => 97 | 320 => 98 | 337 => 108 | 338 => 109 | n => n, fun | 9 => 9 | 3 => 3 | 2 => 2 | 75 => 67 | 85 => 83 | 4 => 4 | 167 => 111 | 5 => 5 | 53 => 101 | 175 => 112 | 46 => 71 | 168 => 114 | 37 => 63 | 0 => 0 | 210 => 126 | 21 => 21 | 127 => 94 | 145 => 132 | 143 => 130 | 171 => 105 | 173 => 108 | 212 => 120 | 51 => 121 | 20 => 20 | 213 => 122 | 232 => 135 | 233 => 136 | 80 => 72 | n => n, fun | 15 => 1 | 16 => 2 | 17 => 0 | 18 => 4 | 19 => 5 | n => n⟩
theorem Tryd.laysC174 : Go.Proofs.LaysC.n174 Tryd.prog Tryd.laysC174_ren := {
 mixed := by kernel_rfl
 f129 := Tryd.func95.trans (congrArg some (by kernel_rfl))
 f171 := Tryd.func104.trans (congrArg some (by kernel_rfl))
 f174 := Tryd.func57.trans (congrArg some (by kernel_rfl))
 f205 := Tryd.func103.trans (congrArg some (by kernel_rfl))
 f243 := Tryd.func111.trans (congrArg some (by kernel_rfl))
 f245 := Tryd.func75.trans (congrArg some (by kernel_rfl))
 f246 := Tryd.func69.trans (congrArg some (by kernel_rfl))
 f247 := Tryd.func74.trans (congrArg some (by kernel_rfl))
 f279 := Tryd.func88.trans (congrArg some (by kernel_rfl))
 f280 := Tryd.func89.trans (congrArg some (by kernel_rfl))
 f281 := Tryd.func90.trans (congrArg some (by kernel_rfl))
 f282 := Tryd.func91.trans (congrArg some (by kernel_rfl))
 f283 := Tryd.func81.trans (congrArg some (by kernel_rfl))
 f284 := Tryd.func82.trans (congrArg some (by kernel_rfl))
 f285 := Tryd.func83.trans (congrArg some (by kernel_rfl))
 f286 := Tryd.func84.trans (congrArg some (by kernel_rfl))
 f287 := Tryd.func87.trans (congrArg some (by kernel_rfl))
 f316 := Tryd.func102.trans (congrArg some (by kernel_rfl))
 f317 := Tryd.func94.trans (congrArg some (by kernel_rfl))
 f318 := Tryd.func96.trans (congrArg some (by kernel_rfl))
 f319 := Tryd.func97.trans (congrArg some (by kernel_rfl))
 f320 := Tryd.func98.trans (congrArg some (by kernel_rfl))
 f321 := Tryd.func100.trans (congrArg some (by kernel_rfl))
 f322 := Tryd.func101.trans (congrArg some (by kernel_rfl))
 f337 := Tryd.func108.trans (congrArg some (by kernel_rfl))
 f338 := Tryd.func109.trans (congrArg some (by kernel_rfl))
 t0 := Tryd.underlying0
 a0 := Tryd.isAgg0
 z0 := Tryd.sizeOf0
 v0 := Tryd.zeroValue0
 t2 := Tryd.underlying2
 a2 := Tryd.isAgg2
 z2 := Tryd.sizeOf2
 v2 := Tryd.zeroValue2
 t3 := Tryd.underlying3
 a3 := Tryd.isAgg3
 z3 := Tryd.sizeOf3
 v3 := Tryd.zeroValue3
 t4 := Tryd.underlying4
 a4 := Tryd.isAgg4
 z4 := Tryd.sizeOf4
 v4 := Tryd.zeroValue4
 t5 := Tryd.underlying5
 a5 := Tryd.isAgg5
 z5 := Tryd.sizeOf5
 v5 := Tryd.zeroValue5
 t9 := Tryd.underlying9
 a9 := Tryd.isAgg9
 z9 := Tryd.sizeOf9
 v9 := Tryd.zeroValue9
 t20 := Tryd.underlying20
 a20 := Tryd.isAgg20
 z20 := Tryd.sizeOf20
 v20 := Tryd.zeroValue20
 t21 := Tryd.underlying21
 a21 := Tryd.isAgg21
 z21 := Tryd.sizeOf21
 v21 := Tryd.zeroValue21
 t37 := Tryd.underlying63
 a37 := Tryd.isAgg63
 z37 := Tryd.sizeOf63
 v37 := Tryd.zeroValue63
 t46 := Tryd.underlying71
 a46 := Tryd.isAgg71
 z46 := Tryd.sizeOf71
 v46 := Tryd.zeroValue71
 t51 := Tryd.underlying121
 a51 := Tryd.isAgg121
 z51 := Tryd.sizeOf121
 v51 := Tryd.zeroValue121
 t53 := Tryd.underlying101
 a53 := Tryd.isAgg101
 z53 := Tryd.sizeOf101
 v53 := Tryd.zeroValue101
 t75 := Tryd.underlying67
 a75 := Tryd.isAgg67
 z75 := Tryd.sizeOf67
 v75 := Tryd.zeroValue67
 t85 := Tryd.underlying83
 a85 := Tryd.isAgg83
 z85 := Tryd.sizeOf83
 v85 := Tryd.zeroValue83
 t127 := Tryd.underlying94
 a127 := Tryd.isAgg94
 z127 := Tryd.sizeOf94
 v127 := Tryd.zeroValue94
 t143 := Tryd.underlying130
 a143 := Tryd.isAgg130
 z143 := Tryd.sizeOf130
 v143 := Tryd.zeroValue130
 t145 := Tryd.underlying132
 a145 := Tryd.isAgg132
 z145 := Tryd.sizeOf132
 v145 := Tryd.zeroValue132
 t167 := Tryd.underlying111
 a167 := Tryd.isAgg111
 z167 := Tryd.sizeOf111
 v167 := Tryd.zeroValue111
 t168 := Tryd.underlying114
 a168 := Tryd.isAgg114
 z168 := Tryd.sizeOf114
 v168 := Tryd.zeroValue114
 t171 := Tryd.underlying105
 a171 := Tryd.isAgg105
 z171 := Tryd.sizeOf105
 v171 := Tryd.zeroValue105
 t173 := Tryd.underlying108
 a173 := Tryd.isAgg108
 z173 := Tryd.sizeOf108
 v173 := Tryd.zeroValue108
 t175 := Tryd.underlying112
 a175 := Tryd.isAgg112
 z175 := Tryd.sizeOf112
 v175 := Tryd.zeroValue112
 t210 := Tryd.underlying126
 a210 := Tryd.isAgg126
 z210 := Tryd.sizeOf126
 v210 := Tryd.zeroValue126
 t212 := Tryd.underlying120
 a212 := Tryd.isAgg120
 z212 := Tryd.sizeOf120
 v212 := Tryd.zeroValue120
 t213 := Tryd.underlying122
 a213 := Tryd.isAgg122
 z213 := Tryd.sizeOf122
 t232 := Tryd.underlying135
 a232 := Tryd.isAgg135
 z232 := Tryd.sizeOf135
 v232 := Tryd.zeroValue135
 t233 := Tryd.underlying136
 a233 := Tryd.isAgg136
 z233 := Tryd.sizeOf136
 v233 := Tryd.zeroValue136
 g15 := by kernel_rfl
 g16 := by kernel_rfl
 g17 := by kernel_rfl
 g18 := by kernel_rfl
 g19 := by kernel_rfl
 t80 := Tryd.underlying72
 a80 := Tryd.isAgg72
 z80 := Tryd.sizeOf72
 v80 := Tryd.zeroValue72
 i0 := by kernel_rfl
 i2 := by kernel_rfl
 i3 := by kernel_rfl
 i4 := by kernel_rfl
 i5 := by kernel_rfl
 i9 := by kernel_rfl
 i20 := by kernel_rfl
 i21 := by kernel_rfl
 i37 := by kernel_rfl
 i46 := by kernel_rfl
 i51 := by kernel_rfl
 i53 := by kernel_rfl
 i75 := by kernel_rfl
 i80 := by kernel_rfl
 i85 := by kernel_rfl
 i127 := by kernel_rfl
 i143 := by kernel_rfl
 i145 := by kernel_rfl
 i167 := by kernel_rfl
 i168 := by kernel_rfl
 i171 := by kernel_rfl
 i173 := by kernel_rfl
 i175 := by kernel_rfl
 i210 := by kernel_rfl
 i212 := by kernel_rfl
 i232 := by kernel_rfl
 i233 := by kernel_rfl
 m15 := by kernel_rfl
 m16 := by kernel_rfl
 m17 := by kernel_rfl
 m18 := by kernel_rfl
 m19 := by kernel_rfl
 c0 := by kernel_rfl
 c2 := by kernel_rfl
 c3 := by kernel_rfl
 c4 := by kernel_rfl
 c5 := by kernel_rfl
 c9 := by kernel_rfl
 c20 := by kernel_rfl
 c21 := by kernel_rfl
 c37 := by kernel_rfl
 c46 := by kernel_rfl
 c51 := by kernel_rfl
 c53 := by kernel_rfl
 c75 := by kernel_rfl
 c80 := by kernel_rfl
 c85 := by kernel_rfl
 c127 := by kernel_rfl
 c143 := by kernel_rfl
 c145 := by kernel_rfl
 c167 := by kernel_rfl
 c168 := by kernel_rfl
 c171 := by kernel_rfl
 c173 := by kernel_rfl
 c175 := by kernel_rfl
 c210 := by kernel_rfl
 c212 := by kernel_rfl
 c213 := by kernel_rfl
 c232 := by kernel_rfl
 c233 := by kernel_rfl }
theorem Tryd.strconv_ParseInt_10_at64_ok (s : ByteArray) (hmax : s.size ≤ 9223372036854775806) (v : Int) (h : Lib.parseIntB 64 s.data.toList = .ok v) (w : World) :
  Calls Tryd.prog 57 #[.string s, .int .i64 10, .int .i64 64] w fun e w' => e = .returned (.tuple #[.int .i64 v, .nilIface]) ∧ (w' = w ∨ ∃ t, w' = Lib.bytesWorld w 5 t) := Any.strconv_ParseInt_10_at64_ok Tryd.laysC174 s hmax v h w
theorem Tryd.strconv_ParseInt_10_at64_syntax (s : ByteArray) (hlim : s.size ≤ 281474976710656) (h : (∀ v, Lib.parseIntB 64 s.data.toList ≠ .ok v) ∧ Lib.parseIntB 64 s.data.toList ≠ .range) (ev : Value) (w : World) (hv : w.cell? ⟨1, 0, none⟩ = some ev) (hev : ev = .nilIface ∨ ∃ te pe, ev = .iface te pe) :
  Calls Tryd.prog 57 #[.string s, .int .i64 10, .int .i64 64] w fun e w' => ∃ N, e = .returned (.tuple #[.int .i64 (0), .iface 114 (.pointer (some ⟨N, 0, none⟩))]) ∧ w.heap.size ≤ N ∧ w'.heap[N]? = some (.cells #[.string ⟨#[80, 97, 114, 115, 101, 73, 110, 116]⟩, .string s, ev] 126 (0, 0)) ∧ Below w.heap.size w w' := Any.strconv_ParseInt_10_at64_syntax Tryd.laysC174 s hlim (by cases hp : Lib.parseIntB 64 s.data.toList <;> first | rfl | exact absurd hp (h.1 _) | exact absurd hp h.2) ev w hv hev
theorem Tryd.strconv_ParseInt_10_at64_range (s : ByteArray) (hlim : s.size ≤ 281474976710656) (h : Lib.parseIntB 64 s.data.toList = .range) (ev : Value) (w : World) (hv : w.cell? ⟨2, 0, none⟩ = some ev) (hev : ev = .nilIface ∨ ∃ te pe, ev = .iface te pe) :
  Calls Tryd.prog 57 #[.string s, .int .i64 10, .int .i64 64] w fun e w' => ∃ N, e = .returned (.tuple #[.int .i64 (Lib.intSat 64 s.data.toList), .iface 114 (.pointer (some ⟨N, 0, none⟩))]) ∧ w.heap.size ≤ N ∧ w'.heap[N]? = some (.cells #[.string ⟨#[80, 97, 114, 115, 101, 73, 110, 116]⟩, .string s, ev] 126 (0, 0)) ∧ Below w.heap.size w w' := Any.strconv_ParseInt_10_at64_range Tryd.laysC174 s hlim h ev w hv hev
def Tryd.lays169_ren : Go.Shelf.Ren := ⟨fun | 169 => 43 | n => n, fun | 70 => 62 | 9 => 9 | 0 => 0 | 72 => 65 | 37 => 63 | 127 => 94 | 3 => 3 | 5 => 5 | n => n, fun | n => n⟩
theorem Tryd.lays169 : Go.Proofs.Lays.n169 Tryd.prog Tryd.lays169_ren := {
 mixed := by kernel_rfl
 f169 := Tryd.func43.trans (congrArg some (by kernel_rfl))
 t0 := Tryd.underlying0
 a0 := Tryd.isAgg0
 z0 := Tryd.sizeOf0
 v0 := Tryd.zeroValue0
 t3 := Tryd.underlying3
 a3 := Tryd.isAgg3
 z3 := Tryd.sizeOf3
 v3 := Tryd.zeroValue3
 t9 := Tryd.underlying9
 a9 := Tryd.isAgg9
 z9 := Tryd.sizeOf9
 v9 := Tryd.zeroValue9
 t37 := Tryd.underlying63
 a37 := Tryd.isAgg63
 z37 := Tryd.sizeOf63
 v37 := Tryd.zeroValue63
 t70 := Tryd.underlying62
 a70 := Tryd.isAgg62
 z70 := Tryd.sizeOf62
 v70 := Tryd.zeroValue62
 t72 := Tryd.underlying65
 a72 := Tryd.isAgg65
 z72 := Tryd.sizeOf65
 v72 := Tryd.zeroValue65
 t127 := Tryd.underlying94
 a127 := Tryd.isAgg94
 z127 := Tryd.sizeOf94
 v127 := Tryd.zeroValue94 }
theorem Tryd.Builder_Extra_169 : Builder.Extra Tryd.prog Tryd.lays169_ren := {
 sizeBuilder := by kernel_rfl
 liesBuilder := by kernel_rfl
 t5 := Tryd.underlying5
 a5 := Tryd.isAgg5
 z5 := Tryd.sizeOf5
 v5 := Tryd.zeroValue5
 infoByte := by kernel_rfl
 cellsByte := by kernel_rfl
 sizeByte := by kernel_rfl
 neB5 := by decide }
theorem Tryd.Builder_String_any (B b : Nat) (l : List UInt8) (w : World) (h : Lib.IsBuilder 65 5 B b (Lib.byteCells l) w) (hBw : B ≤ w.heap.size) :
  Calls Tryd.prog 43 #[.pointer (some ⟨b, 0, none⟩)] w fun e w' => e = .returned (.string ⟨l.toArray⟩) ∧ Below B w w' := Any.Builder_String_any Tryd.lays169 Tryd.Builder_Extra_169 B b l w h hBw
def Tryd.lays156_ren : Go.Shelf.Ren := ⟨fun | 156 => 73 | 165 => 86 | 166 => 42 | 169 => 43 | 240 => 68 | 241 => 99 | 276 => 80 | 277 => 110 | n => n, fun | 31 => 48 | 9 => 9 | 3 => 3 | 4 => 4 | 0 => 0 | 20 => 20 | 72 => 65 | 76 => 69 | 70 => 62 | 37 => 63 | 75 => 67 | 127 => 94 | 164 => 102 | 5 => 5 | 80 => 72 | n => n, fun | n => n⟩
theorem Tryd.lays156 : Go.Proofs.Lays.n156 Tryd.prog Tryd.lays156_ren := {
 mixed := by kernel_rfl
 f156 := Tryd.func73.trans (congrArg some (by kernel_rfl))
 f165 := Tryd.func86.trans (congrArg some (by kernel_rfl))
 f166 := Tryd.func42.trans (congrArg some (by kernel_rfl))
 f169 := Tryd.func43.trans (congrArg some (by kernel_rfl))
 f240 := Tryd.func68.trans (congrArg some (by kernel_rfl))
 f241 := Tryd.func99.trans (congrArg some (by kernel_rfl))
 f276 := Tryd.func80.trans (congrArg some (by kernel_rfl))
 f277 := Tryd.func110.trans (congrArg some (by kernel_rfl))
 t0 := Tryd.underlying0
 a0 := Tryd.isAgg0
 z0 := Tryd.sizeOf0
 v0 := Tryd.zeroValue0
 t3 := Tryd.underlying3
 a3 := Tryd.isAgg3
 z3 := Tryd.sizeOf3
 v3 := Tryd.zeroValue3
 t4 := Tryd.underlying4
 a4 := Tryd.isAgg4
 z4 := Tryd.sizeOf4
 v4 := Tryd.zeroValue4
 t9 := Tryd.underlying9
 a9 := Tryd.isAgg9
 z9 := Tryd.sizeOf9
 v9 := Tryd.zeroValue9
 t20 := Tryd.underlying20
 a20 := Tryd.isAgg20
 z20 := Tryd.sizeOf20
 v20 := Tryd.zeroValue20
 t31 := Tryd.underlying48
 a31 := Tryd.isAgg48
 z31 := Tryd.sizeOf48
 v31 := Tryd.zeroValue48
 t37 := Tryd.underlying63
 a37 := Tryd.isAgg63
 z37 := Tryd.sizeOf63
 v37 := Tryd.zeroValue63
 t70 := Tryd.underlying62
 a70 := Tryd.isAgg62
 z70 := Tryd.sizeOf62
 v70 := Tryd.zeroValue62
 t72 := Tryd.underlying65
 a72 := Tryd.isAgg65
 z72 := Tryd.sizeOf65
 v72 := Tryd.zeroValue65
 t75 := Tryd.underlying67
 a75 := Tryd.isAgg67
 z75 := Tryd.sizeOf67
 v75 := Tryd.zeroValue67
 t76 := Tryd.underlying69
 a76 := Tryd.isAgg69
 z76 := Tryd.sizeOf69
 v76 := Tryd.zeroValue69
 t127 := Tryd.underlying94
 a127 := Tryd.isAgg94
 z127 := Tryd.sizeOf94
 v127 := Tryd.zeroValue94
 t164 := Tryd.underlying102
 a164 := Tryd.isAgg102
 z164 := Tryd.sizeOf102
 v164 := Tryd.zeroValue102 }
theorem Tryd.Builder_Extra_156 : Builder.Extra Tryd.prog Tryd.lays156_ren := {
 sizeBuilder := by kernel_rfl
 liesBuilder := by kernel_rfl
 t5 := Tryd.underlying5
 a5 := Tryd.isAgg5
 z5 := Tryd.sizeOf5
 v5 := Tryd.zeroValue5
 infoByte := by kernel_rfl
 cellsByte := by kernel_rfl
 sizeByte := by kernel_rfl
 neB5 := by decide }
theorem Tryd.strings_Join (bk o c : Nat) (xs : List ByteArray) (sep : ByteArray) (w : World) (hcells : ∀ (j : Nat) x, xs[j]? = some x → w.cell? ⟨bk, o + j, none⟩ = some (.string x)) (hbk : bk < w.heap.size) (hN : xs.length ≤ 140737488355328) (hcap : xs.length ≤ c) (hlen : (Lib.join (xs.map (·.data.toList)) sep.data.toList).length ≤ 140737488355328) :
  Calls Tryd.prog 73 #[.slice (some ⟨bk, o, none⟩) xs.length c, .string sep] w fun e w' => e = .returned (.string ⟨(Lib.join (xs.map (·.data.toList)) sep.data.toList).toArray⟩) ∧ Below w.heap.size w w' := Any.strings_Join Tryd.lays156 Tryd.Builder_Extra_156 bk o c xs sep w hcells hbk hN hcap hlen
theorem Tryd.strings_Join_none (a : Option Addr) (c : Nat) (sep : ByteArray) (w : World) :
  Calls Tryd.prog 73 #[.slice a 0 c, .string sep] w fun e w' => e = .returned (.string ⟨#[]⟩) ∧ w' = w := Any.strings_Join_none Tryd.lays156 Tryd.Builder_Extra_156 a c sep w
end Go.Proofs
namespace Go.Proofs.YtngcojabofkbjaaDoor.P
open Go.RowKit Go.Proofs.YtngcojabofkbjaaDoorW.PrintWords Go.Proofs.YtngcojabofkbjaaDoorW.PrintLast Go.Proofs.YtngcojabofkbjaaDoorW.PrintMore
set_option linter.unusedVariables false
set_option linter.unusedSimpArgs false
def strings_IndexByte.f (a0 : ByteArray) (a1 : Int) : Option (Int) := some (Lib.indexByte a0.data.toList a1.toNat.toUInt8)
theorem strings_IndexByte.calls (a0 : ByteArray) (a1 : Int) (r : Int) (w : World) (h : strings_IndexByte.f a0 a1 = some r) :
  Calls Tryd.prog 59 #[.string a0, .int .u8 a1] w fun e w' => e = .returned (.int .i64 r) ∧ Drawn0 w w' := by
 obtain rfl := Option.some.inj h
 refine (Tryd.strings_IndexByte a0 a1 w).mono ?_
 rintro e w' ⟨rfl, rfl⟩
 exact ⟨rfl, Drawn0.refl _⟩
def cutAt (a0 : ByteArray) (c : UInt8) : ByteArray × ByteArray × Bool :=
 if Lib.indexByte a0.data.toList c < 0 then (a0, ⟨#[]⟩, false)
 else (a0.extract 0 (Lib.indexByte a0.data.toList c).toNat, a0.extract ((Lib.indexByte a0.data.toList c).toNat + 1) a0.size, true)
def strings_Cut.f (a0 : ByteArray) (a1 : ByteArray) : Option (ByteArray × ByteArray × Bool) :=
 if a0.size ≤ 140737488351232 then match a1.data.toList with
 | [c] => some (cutAt a0 c)
 | _ => none
 else none
theorem indexByte_range (l : List UInt8) (c : UInt8) : -1 ≤ Lib.indexByte l c ∧ Lib.indexByte l c < l.length := by
 induction l with
 | nil => simp [Lib.indexByte]
 | cons b l ih =>
  unfold Lib.indexByte
  split
  ·simp
  ·split
   ·simp; omega
   ·rename_i h; simp at h; simp only [List.length_cons]; omega
set_option maxHeartbeats 1000000 in
theorem stringslite_Cut_one (a0 : ByteArray) (c : UInt8) (w : World) (hs : a0.size ≤ 140737488351232) :
  Calls Tryd.prog 78 #[.string a0, .string ⟨#[c]⟩] w fun e w' => e = .returned (.tuple #[.string (cutAt a0 c).1, .string (cutAt a0 c).2.1, .bool (cutAt a0 c).2.2]) ∧ Drawn0 w w' := by
 have hr := indexByte_range a0.data.toList c
 have hl : a0.data.toList.length = a0.size := by simp
 rw [hl] at hr
 by_cases hneg : Lib.indexByte a0.data.toList c < 0
 ·have E : cutAt a0 c = (a0, ⟨#[]⟩, false) := by unfold cutAt; rw [if_pos hneg]
  rw [E]
  have H := Y0 (fun W => Tryd.stringslite_Index_one a0 c W)
  generalize Lib.indexByte a0.data.toList c = i at *
  clear E
  have hd : decide (0 ≤ i) = false := decide_eq_false (by omega)
  go_enter Tryd.func78, Tryd.ntmps78
  go_wp2_with (go_at_call 93; refine (H.out _).mono ?_; rintro e w' ⟨rfl, rfl⟩)
  go_ret3
  exact ⟨rfl, Drawn0.refl _⟩
 ·have E : cutAt a0 c = (a0.extract 0 (Lib.indexByte a0.data.toList c).toNat, a0.extract ((Lib.indexByte a0.data.toList c).toNat + 1) a0.size, true) := by unfold cutAt; rw [if_neg hneg]
  rw [E]
  have H := Y0 (fun W => Tryd.stringslite_Index_one a0 c W)
  generalize Lib.indexByte a0.data.toList c = i at *
  clear E
  obtain ⟨n, rfl⟩ := Int.eq_ofNat_of_zero_le (show 0 ≤ i by omega)
  have hd : decide (0 ≤ (n : Int)) = true := decide_eq_true (by omega)
  have g1 : (n : Int) ≤ (a0.size : Int) := by omega
  have g2 : (n : Int) + 1 ≤ (a0.size : Int) := by omega
  have g3 : n + 1 ≤ a0.size := by omega
  have g4 : n ≤ a0.size := by omega
  go_enter Tryd.func78, Tryd.ntmps78
  go_wp2_with (go_at_call 93; refine (H.out _).mono ?_; rintro e w' ⟨rfl, rfl⟩)
  go_quiet (fail)
  go_wp2
  go_ret3
  exact ⟨by simp, by exact Drawn0.step (Drawn0.refl _) _⟩
theorem strings_Cut.calls (a0 : ByteArray) (a1 : ByteArray) (r1 : ByteArray) (r2 : ByteArray) (r3 : Bool) (w : World) (h : strings_Cut.f a0 a1 = some (r1, r2, r3)) :
  Calls Tryd.prog 62 #[.string a0, .string a1] w fun e w' => e = .returned (.tuple #[.string r1, .string r2, .bool r3]) ∧ Drawn0 w w' := by
 unfold strings_Cut.f at h
 split at h
 ·rename_i hs
  split at h
  ·rename_i c hc
   have e : a1 = ⟨#[c]⟩ := by cases a1 with | mk d => cases d; simp_all
   subst e
   have hh := Option.some.inj h
   have h1 : (cutAt a0 c).1 = r1 := by rw [hh]
   have h2 : (cutAt a0 c).2.1 = r2 := by rw [hh]
   have h3 : (cutAt a0 c).2.2 = r3 := by rw [hh]
   clear h hh hc
   have H := fun W => stringslite_Cut_one a0 c W hs
   rw [h1, h2, h3] at H
   clear h1 h2 h3
   go_enter Tryd.func62, Tryd.ntmps62
   go_wp2_with (go_at_call 78; refine (H _).mono ?_; rintro e w' ⟨rfl, hd⟩)
   go_ret3
   exact ⟨rfl, hd⟩
  ·cases h
 ·cases h
mutual
def token_of.j0 : Nat → Int → Bool → Option (Int)
 | 0, _, _ => none
 | k + 1, x0, x3 => if x3 = true then (token_of.j1 k x0 x3) else (if x0 ≥ 65 then (if x0 ≤ 90 then (token_of.j1 k x0 (decide (x0 ≤ 90))) else (token_of.j1 k x0 (x0 == 95))) else (token_of.j1 k x0 (x0 == 95)))
def token_of.j1 : Nat → Int → Bool → Option (Int)
 | 0, _, _ => none
 | k + 1, x0, x3 => if x3 = true then (some 0) else (if x0 ≥ 48 then (token_of.j2 k x0 (decide (x0 ≤ 57))) else (token_of.j2 k x0 false))
def token_of.j2 : Nat → Int → Bool → Option (Int)
 | 0, _, _ => none
 | k + 1, x0, x18 => if x18 = true then (token_of.j3 k x0 x18) else (token_of.j3 k x0 (x0 == 45))
def token_of.j3 : Nat → Int → Bool → Option (Int)
 | 0, _, _ => none
 | k + 1, x0, x18 => if x18 = true then (some 1) else (if x0 = 34 then (some 2) else ((strings_IndexByte.f (⟨#[123, 125, 40, 41, 91, 93, 60, 62, 61, 59, 44, 46]⟩ : ByteArray) x0).bind fun t101 => (if t101 ≥ 0 then (some 3) else (some 4))))
end
def token_of.f (k : Nat) (a0 : Int) : Option (Int) := if a0 ≥ 97 then (token_of.j0 k a0 (decide (a0 ≤ 122))) else (token_of.j0 k a0 false)
set_option maxHeartbeats 8000000 in
set_option maxRecDepth 100000 in
theorem token_of.calls (k : Nat) (a0 : Int) (r : Int) (w : World) (h : token_of.f k a0 = some r) :
  Calls Tryd.prog 38 #[.int .u8 a0] w fun e w' => e = .returned (.int .i64 r) ∧ Drawn0 w w' := by
 have H : (if a0 ≥ 97 then (token_of.j0 k a0 (decide (a0 ≤ 122))) else (token_of.j0 k a0 false)) = some r := h
 clear h
 have HC2 := Y0 H
 clear H
 go_enter Tryd.func38, Tryd.ntmps38
 go_upto_region 1 with (fail)
 go_cut [3] (fun v3 wc => ∃ (kq : Nat) (x3_1 : Bool), v3 = .bool x3_1 ∧ Aside0 (token_of.j0 kq a0 x3_1 = some r) ∧ Aside0 (kq ≤ k) ∧ Drawn0 w wc)
 case first =>
  have H := HC2.out
  clear HC2
  by_cases c3 : a0 ≥ 97
  rotate_left
  ·rw [if_neg c3] at H
   have c3b0 : decide (97 ≤ a0) = false := decide_eq_false c3
   clear c3
   (first | rw [c3b0] | (simp only [i64_w]; rw [c3b0]) | skip)
   have H' := Y0 H
   clear H
   go_wp2
   go_meet
   case rel => exact ⟨_, (false), (by first | rfl | (simp; done) | (simp [*]; done)), H', ⟨by first | omega | exact Nat.le_refl _⟩, by repeat (first | exact Drawn0.refl _ | apply Drawn0.step)⟩
  rw [if_pos c3] at H
  have c3b0 : decide (97 ≤ a0) = true := decide_eq_true c3
  clear c3
  (first | rw [c3b0] | (simp only [i64_w]; rw [c3b0]) | skip)
  have H' := Y0 H
  clear H
  go_wp2
  go_meet
  case rel => exact ⟨_, (decide (a0 ≤ 122)), (by first | rfl | (simp; done) | (simp [*]; done)), H', ⟨by first | omega | exact Nat.le_refl _⟩, by repeat (first | exact Drawn0.refl _ | apply Drawn0.step)⟩
 case rest =>
  clear HC2
  obtain ⟨kq, x3_1, rfl, HA, HJ1, ⟨mc1, rfl⟩⟩ := hcut
  cases kq with
  | zero => exact absurd HA.out (by simp [token_of.j0])
  | succ kj1 =>
   have H := HA.out
   clear HA
   simp only [token_of.j0] at H
   have HC4 := Y0 H
   clear H
   go_upto_if 3 with (fail)
   go_cut [3] (fun v3 wc => ∃ (kq : Nat) (x3_3 : Bool), v3 = .bool x3_3 ∧ Aside0 (token_of.j1 kq a0 x3_3 = some r) ∧ Aside0 (kq ≤ kj1) ∧ Drawn0 w wc)
   case first =>
    have H := HC4.out
    clear HC4
    by_cases c5 : x3_1 = true
    ·subst c5
     rw [if_pos rfl] at H
     have H' := Y0 H
     clear H
     go_wp2
     go_meet
     case rel => exact ⟨_, (true), (by first | rfl | (simp; done) | (simp [*]; done)), H', ⟨by have := HJ1.out; first | omega | exact Nat.le_refl _⟩, by repeat (first | exact Drawn0.refl _ | apply Drawn0.step)⟩
    replace c5 := Bool.eq_false_iff.mpr c5
    subst c5
    rw [if_neg (show ¬ (false = true) by decide)] at H
    by_cases c6 : a0 ≥ 65
    rotate_left
    ·rw [if_neg c6] at H
     have c6b0 : decide (65 ≤ a0) = false := decide_eq_false c6
     clear c6
     (first | rw [c6b0] | (simp only [i64_w]; rw [c6b0]) | skip)
     have H' := Y0 H
     clear H
     go_wp2
     go_meet
     case rel => exact ⟨_, ((a0 == 95)), (by first | rfl | (simp; done) | (simp [*]; done)), H', ⟨by have := HJ1.out; first | omega | exact Nat.le_refl _⟩, by repeat (first | exact Drawn0.refl _ | apply Drawn0.step)⟩
    rw [if_pos c6] at H
    have c6b0 : decide (65 ≤ a0) = true := decide_eq_true c6
    clear c6
    (first | rw [c6b0] | (simp only [i64_w]; rw [c6b0]) | skip)
    by_cases c7 : a0 ≤ 90
    rotate_left
    ·rw [if_neg c7] at H
     have c7b0 : decide (a0 ≤ 90) = false := decide_eq_false c7
     clear c7
     have H' := Y0 H
     clear H
     go_wp2
     go_meet
     case rel => exact ⟨_, ((a0 == 95)), (by first | rfl | (simp; done) | (simp [*]; done)), H', ⟨by have := HJ1.out; first | omega | exact Nat.le_refl _⟩, by repeat (first | exact Drawn0.refl _ | apply Drawn0.step)⟩
    rw [if_pos c7] at H
    have c7b0 : decide (a0 ≤ 90) = true := decide_eq_true c7
    clear c7
    have H' := Y0 H
    clear H
    go_wp2
    go_meet
    case rel => exact ⟨_, (decide (a0 ≤ 90)), (by first | rfl | (simp; done) | (simp [*]; done)), H', ⟨by have := HJ1.out; first | omega | exact Nat.le_refl _⟩, by repeat (first | exact Drawn0.refl _ | apply Drawn0.step)⟩
   case rest =>
    clear HC4
    obtain ⟨kq, x3_3, rfl, HA, HJ3, ⟨mc3, rfl⟩⟩ := hcut
    cases kq with
    | zero => exact absurd HA.out (by simp [token_of.j1])
    | succ kj3 =>
     have H := HA.out
     clear HA
     simp only [token_of.j1] at H
     by_cases c8 : x3_3 = true
     ·subst c8
      rw [if_pos rfl] at H
      obtain rfl := Option.some.inj H
      go_wp2
      go_ret
      exact ⟨by first | rfl | (simp; done) | (simp [*]; done), by repeat (first | exact Drawn0.refl _ | apply Drawn0.step)⟩
     replace c8 := Bool.eq_false_iff.mpr c8
     subst c8
     rw [if_neg (show ¬ (false = true) by decide)] at H
     have HC9 := Y0 H
     clear H
     go_upto_region 5 with (fail)
     go_cut [18] (fun v18 wc => ∃ (kq : Nat) (x18_8 : Bool), v18 = .bool x18_8 ∧ Aside0 (token_of.j2 kq a0 x18_8 = some r) ∧ Aside0 (kq ≤ kj3) ∧ Drawn0 w wc)
     case first =>
      have H := HC9.out
      clear HC9
      by_cases c10 : a0 ≥ 48
      rotate_left
      ·rw [if_neg c10] at H
       have c10b0 : decide (48 ≤ a0) = false := decide_eq_false c10
       clear c10
       (first | rw [c10b0] | (simp only [i64_w]; rw [c10b0]) | skip)
       have H' := Y0 H
       clear H
       go_wp2
       go_meet
       case rel => exact ⟨_, (false), (by first | rfl | (simp; done) | (simp [*]; done)), H', ⟨by have := HJ1.out; have := HJ3.out; first | omega | exact Nat.le_refl _⟩, by repeat (first | exact Drawn0.refl _ | apply Drawn0.step)⟩
      rw [if_pos c10] at H
      have c10b0 : decide (48 ≤ a0) = true := decide_eq_true c10
      clear c10
      (first | rw [c10b0] | (simp only [i64_w]; rw [c10b0]) | skip)
      have H' := Y0 H
      clear H
      go_wp2
      go_meet
      case rel => exact ⟨_, (decide (a0 ≤ 57)), (by first | rfl | (simp; done) | (simp [*]; done)), H', ⟨by have := HJ1.out; have := HJ3.out; first | omega | exact Nat.le_refl _⟩, by repeat (first | exact Drawn0.refl _ | apply Drawn0.step)⟩
     case rest =>
      clear HC9
      obtain ⟨kq, x18_8, rfl, HA, HJ8, ⟨mc8, rfl⟩⟩ := hcut
      cases kq with
      | zero => exact absurd HA.out (by simp [token_of.j2])
      | succ kj8 =>
       have H := HA.out
       clear HA
       simp only [token_of.j2] at H
       have HC11 := Y0 H
       clear H
       go_upto_if 18 with (fail)
       go_cut [18] (fun v18 wc => ∃ (kq : Nat) (x18_10 : Bool), v18 = .bool x18_10 ∧ Aside0 (token_of.j3 kq a0 x18_10 = some r) ∧ Aside0 (kq ≤ kj8) ∧ Drawn0 w wc)
       case first =>
        have H := HC11.out
        clear HC11
        by_cases c12 : x18_8 = true
        ·subst c12
         rw [if_pos rfl] at H
         have H' := Y0 H
         clear H
         go_wp2
         go_meet
         case rel => exact ⟨_, (true), (by first | rfl | (simp; done) | (simp [*]; done)), H', ⟨by have := HJ1.out; have := HJ3.out; have := HJ8.out; first | omega | exact Nat.le_refl _⟩, by repeat (first | exact Drawn0.refl _ | apply Drawn0.step)⟩
        replace c12 := Bool.eq_false_iff.mpr c12
        subst c12
        rw [if_neg (show ¬ (false = true) by decide)] at H
        have H' := Y0 H
        clear H
        go_wp2
        go_meet
        case rel => exact ⟨_, ((a0 == 45)), (by first | rfl | (simp; done) | (simp [*]; done)), H', ⟨by have := HJ1.out; have := HJ3.out; have := HJ8.out; first | omega | exact Nat.le_refl _⟩, by repeat (first | exact Drawn0.refl _ | apply Drawn0.step)⟩
       case rest =>
        clear HC11
        obtain ⟨kq, x18_10, rfl, HA, HJ10, ⟨mc10, rfl⟩⟩ := hcut
        cases kq with
        | zero => exact absurd HA.out (by simp [token_of.j3])
        | succ kj10 =>
         have H := HA.out
         clear HA
         simp only [token_of.j3] at H
         by_cases c13 : x18_10 = true
         ·subst c13
          rw [if_pos rfl] at H
          obtain rfl := Option.some.inj H
          go_wp2
          go_ret
          exact ⟨by first | rfl | (simp; done) | (simp [*]; done), by repeat (first | exact Drawn0.refl _ | apply Drawn0.step)⟩
         replace c13 := Bool.eq_false_iff.mpr c13
         subst c13
         rw [if_neg (show ¬ (false = true) by decide)] at H
         by_cases c14 : a0 = 34
         ·rw [if_pos c14] at H
          have c14b0 : (a0 == 34) = true := beq_iff_eq.mpr c14
          have c14b1 : (a0 != 34) = false := bne_eq_false_iff_eq.mpr c14
          clear c14
          obtain rfl := Option.some.inj H
          go_wp2
          go_ret
          exact ⟨by first | rfl | (simp; done) | (simp [*]; done), by repeat (first | exact Drawn0.refl _ | apply Drawn0.step)⟩
         rw [if_neg c14] at H
         have c14b0 : (a0 == 34) = false := beq_eq_false_iff_ne.mpr c14
         have c14b1 : (a0 != 34) = true := bne_iff_ne.mpr c14
         replace H := Y17.mp H
         obtain ⟨t101, A150, H⟩ := H
         try dsimp only at H
         have A15 := Y0 A150
         clear A150
         by_cases c16 : t101 ≥ 0
         ·rw [if_pos c16] at H
          have c16b0 : decide (0 ≤ t101) = true := decide_eq_true c16
          clear c16
          obtain rfl := Option.some.inj H
          go_wp2_with (first | ((with_reducible refine gate_callee (f := 59) rfl ?_); refine goesL_ (some 32) rfl rfl Tryd.func59 (by kernel_rfl) rfl #[.string (⟨#[123, 125, 40, 41, 91, 93, 60, 62, 61, 59, 44, 46]⟩ : ByteArray), .int .u8 a0] rfl (by (try simp only [List.map_toArray, List.map_cons, List.map_nil]); first | done | rfl | (simp only [List.length_drop, List.length_take]; rfl)) ?_; (with_reducible refine (strings_IndexByte.calls (⟨#[123, 125, 40, 41, 91, 93, 60, 62, 61, 59, 44, 46]⟩ : ByteArray) a0 t101 _ A15.out).mono ?_); rintro e w' ⟨rfl, ⟨nd, rfl⟩⟩; refine ⟨_, rfl, ?_⟩))
          go_ret
          exact ⟨by first | rfl | (simp; done) | (simp [*]; done), by repeat (first | exact Drawn0.refl _ | apply Drawn0.step)⟩
         rw [if_neg c16] at H
         have c16b0 : decide (0 ≤ t101) = false := decide_eq_false c16
         clear c16
         obtain rfl := Option.some.inj H
         go_wp2_with (first | ((with_reducible refine gate_callee (f := 59) rfl ?_); refine goesL_ (some 32) rfl rfl Tryd.func59 (by kernel_rfl) rfl #[.string (⟨#[123, 125, 40, 41, 91, 93, 60, 62, 61, 59, 44, 46]⟩ : ByteArray), .int .u8 a0] rfl (by (try simp only [List.map_toArray, List.map_cons, List.map_nil]); first | done | rfl | (simp only [List.length_drop, List.length_take]; rfl)) ?_; (with_reducible refine (strings_IndexByte.calls (⟨#[123, 125, 40, 41, 91, 93, 60, 62, 61, 59, 44, 46]⟩ : ByteArray) a0 t101 _ A15.out).mono ?_); rintro e w' ⟨rfl, ⟨nd, rfl⟩⟩; refine ⟨_, rfl, ?_⟩))
         go_ret
         exact ⟨by first | rfl | (simp; done) | (simp [*]; done), by repeat (first | exact Drawn0.refl _ | apply Drawn0.step)⟩
end Go.Proofs.YtngcojabofkbjaaDoor.P
