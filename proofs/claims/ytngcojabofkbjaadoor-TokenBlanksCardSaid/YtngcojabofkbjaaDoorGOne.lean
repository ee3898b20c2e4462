/- token's reader: one. -/
import Derived.StillTailTactics
import Derived.Test.YtngcojabofkbjaaDoorPx0
import Derived.Test.YtngcojabofkbjaaDoorPx2
namespace Go.Proofs.YtngcojabofkbjaaDoor.P
open Go.RowKit Go.Proofs.YtngcojabofkbjaaDoorW.PrintWords Go.Proofs.YtngcojabofkbjaaDoorW.PrintLast Go.Proofs.YtngcojabofkbjaaDoorW.PrintMore
attribute [local go_sem] max2_int min2_int max_two min_two max_three min_three max_four min_four   -- for this text's walks alone
set_option linter.unusedVariables false
set_option linter.unusedSimpArgs false

def token_reader_one.f (s0_0 : ByteArray) (s0_1 : Int) : Option (Int × ByteArray × Int × Int × Bool × ByteArray × Int) :=
  if s0_0.size ≤ 140737488351232 ∧ 0 ≤ s0_1 ∧ s0_1 < s0_0.size then some (3, s0_0.extract s0_1.toNat (s0_1.toNat + 1), 0, 0, true, s0_0, s0_1 + 1) else none
set_option maxHeartbeats 2000000 in
set_option maxRecDepth 100000 in
theorem token_reader_one.calls (g : Nat) (s0_0 : ByteArray) (s0_1 : Int) (r1 : Int) (r2 : ByteArray) (r3 : Int) (r4 : Int) (r5 : Bool) (r6 : ByteArray) (r7 : Int) (w0 w : World) (hI : IsS55 w0 w g s0_0 s0_1) (hB : Below w0.heap.size w0 w) (h : token_reader_one.f s0_0 s0_1 = some (r1, r2, r3, r4, r5, r6, r7)) :
    Calls Tryd.prog 36 #[.pointer (some ⟨g, 0, none⟩)] w fun e w' => e = .returned (.tuple #[.agg #[.int .i64 r1, .string r2, .int .i64 r3, .int .i64 r4], .bool r5]) ∧ IsS55 w0 w' g r6 r7 ∧ Below w0.heap.size w0 w' ∧ KeepBut w w' g none := by
  unfold token_reader_one.f at h
  split at h
  · rename_i hc
    obtain ⟨hs, h0, h1⟩ := hc
    obtain ⟨n, rfl⟩ := Int.eq_ofNat_of_zero_le h0
    rw [Int.toNat_natCast] at h
    simp only [Option.some.injEq, Prod.mk.injEq] at h
    obtain ⟨rfl, rfl, rfl, rfl, rfl, rfl, rfl⟩ := h
    have hn1 : n + 1 ≤ s0_0.size := by omega
    have hn2 : (n : Int) + 1 ≤ (s0_0.size : Int) := by omega
    have HI0 := Aside0.mk hI
    have HK := Aside0.mk (KeepBut.refl w g none)
    have HL := Aside0.mk hB.size
    have HB := Aside0.mk hB
    have GLT := Aside0.mk (IsS55.lt hI)
    clear hI hB
    go_enter Tryd.func36, Tryd.ntmps36
    go_wp2_with ((with_reducible refine gate_dst (N := 2) rfl ?_); refine box_event ?hg (N := 2) ?hd (cs := #[.int .i64 0, .string (⟨#[]⟩ : ByteArray), .int .i64 0, .int .i64 0]) (t := 29) ?hr ?_; (case hd => rfl); (case hg => rfl); (case hr => first | (go_simp; done) | (go_simp; rfl)); intro gb hg w3 hbox hb; have n0_ := Aside0.mk (IsS55.below (by repeat (first | (with_reducible first | exact HI0.out | apply IsS55.alloc | apply IsS55.drewN | apply IsS55.drew | apply IsS55.set_0 | apply IsS55.set_1) | exact HI0.out)) hb); have n1_ := Aside0.mk (KeepBut.trans (by repeat (first | (with_reducible first | exact HK.out | apply KeepBut.set_ | apply keep_drewN | apply keep_drew | apply keep_alloc) | exact HK.out)) (KeepBut.of_below hb g none) (.inl rfl)); have n2_ := Aside0.mk (below_step (by repeat (first | (with_reducible first | exact HB.out | apply below_alloc | apply pw_below_drewN | apply below_drew1) | exact HB.out)) hb); have n3_ := Aside0.mk hbox; have n4_ := Aside0.mk ((by rw [hg]; exact (keep_size (w := w) (g := g) (row := none) (by repeat (first | (with_reducible first | exact HK.out | apply KeepBut.set_ | apply keep_drewN | apply keep_drew | apply keep_alloc) | exact HK.out)))) : w.heap.size ≤ gb); have n6_ := Aside0.mk ((by rw [hg]; exact Nat.ne_of_lt (IsS55.lt (show IsS55 w0 _ g s0_0 n from (by repeat (first | (with_reducible first | exact HI0.out | apply IsS55.alloc | apply IsS55.drewN | apply IsS55.drew | apply IsS55.set_0 | apply IsS55.set_1) | exact HI0.out))))) : g ≠ gb); clear HI0 HK HB; have HI0 := n0_; have HK := n1_; have HB := n2_; have BK := n3_; have GW := n4_; have NB := n6_; clear n0_ n1_ n2_ n3_ n4_ n6_; clear hb hbox hg; have c0 := cellS55_0 HI0.out.1; have c1 := cellS55_1 HI0.out.1; have f1 := blk_frozen HI0.out.1 1; have hne := NB.out; have hne' := NB.out.symm; have z0 : w3.cell? ⟨gb, 0, none⟩ = some (.int .i64 0) := (blk_cell BK.out 0).trans rfl; have z1 : w3.cell? ⟨gb, 1, none⟩ = some (.string (⟨#[]⟩ : ByteArray)) := (blk_cell BK.out 1).trans rfl; have z2 : w3.cell? ⟨gb, 2, none⟩ = some (.int .i64 0) := (blk_cell BK.out 2).trans rfl; have z3 : w3.cell? ⟨gb, 3, none⟩ = some (.int .i64 0) := (blk_cell BK.out 3).trans rfl; have y0 := blk_frozen BK.out 0; have y1 := blk_frozen BK.out 1; have y2 := blk_frozen BK.out 2; have y3 := blk_frozen BK.out 3)
    have HI1 : IsS55 w0 (w3.setCell ⟨g, 1, none⟩ (.int .i64 ((n : Int) + 1))) g s0_0 ((n : Int) + 1) := IsS55.set_1 HI0.out _
    have HK1 : KeepBut w (w3.setCell ⟨g, 1, none⟩ (.int .i64 ((n : Int) + 1))) g none := HK.out.set_ 1 _
    have HB1 : Below w0.heap.size w0 (w3.setCell ⟨g, 1, none⟩ (.int .i64 ((n : Int) + 1))) := below_set HB.out (IsS55.ge HI0.out)
    have BK1 : (w3.setCell ⟨g, 1, none⟩ (.int .i64 ((n : Int) + 1))).heap[gb]? = some (.cells #[.int .i64 0, .string (⟨#[]⟩ : ByteArray), .int .i64 0, .int .i64 0] 29 (0, 0)) := blk_far BK.out NB.out.symm _
    clear HI0 HK HB BK c0 c1 f1 z0 z1 z2 z3 y0 y1 y2 y3
    generalize w3.setCell ⟨g, 1, none⟩ (.int .i64 ((n : Int) + 1)) = W at *
    have HI0 := Aside0.mk HI1
    have HK := Aside0.mk HK1
    have HB := Aside0.mk HB1
    have BK := Aside0.mk BK1
    clear HI1 HK1 HB1 BK1
    have c0 := cellS55_0 HI0.out.1
    have c1 := cellS55_1 HI0.out.1
    have z0 : W.cell? ⟨gb, 0, none⟩ = some (.int .i64 0) := (blk_cell BK.out 0).trans rfl
    have z1 : W.cell? ⟨gb, 1, none⟩ = some (.string (⟨#[]⟩ : ByteArray)) := (blk_cell BK.out 1).trans rfl
    have z2 : W.cell? ⟨gb, 2, none⟩ = some (.int .i64 0) := (blk_cell BK.out 2).trans rfl
    have z3 : W.cell? ⟨gb, 3, none⟩ = some (.int .i64 0) := (blk_cell BK.out 3).trans rfl
    have y0 := blk_frozen BK.out 0
    have y1 := blk_frozen BK.out 1
    have y2 := blk_frozen BK.out 2
    have y3 := blk_frozen BK.out 3
    have hw1 : IntKind.i64.wrap (n : Int) = n := IntWalk.i64_in _ (by omega)
    have hd1 : decide ((n : Int) ≤ (n : Int) + 1) = true := decide_eq_true (by omega)
    have hd2 : decide ((n : Int) + 1 ≤ (s0_0.size : Int)) = true := decide_eq_true (by omega)
    have hd3 : decide (n + 1 ≤ s0_0.size) = true := decide_eq_true (by omega)
    have hd4 : decide (0 ≤ (n : Int)) = true := decide_eq_true (by omega)
    have hd5 : decide (0 ≤ (n : Int) + 1) = true := decide_eq_true (by omega)
    have hsl : ∀ V : World, Sem.run Tryd.prog (Instr.slice 9 (.string s0_0) (some (.int .i64 (n : Int))) (some (.int .i64 ((n : Int) + 1))) none) V = .ok (.string (s0_0.extract n (n + 1))) V := fun V => by
      have e := run_slice_string (P := Tryd.prog) V 9 s0_0 .i64 .i64 (n : Int) ((n : Int) + 1) Tryd.underlying9 (by omega) (by omega) (by omega)
      rw [show ((n : Int) + 1).toNat = n + 1 from by omega, Int.toNat_natCast] at e
      exact e
    clear hd1 hd2 hd3 hd4 hd5
    go_still_tail 15, (by kernel_rfl)
    clear hw1 hsl
    change wpList _ _ _ _ _ W.drew
    go_wp2
    refine bodyPost_ret (results_ct rfl _ _ gb 29 #[.int .i64 3, .string (s0_0.extract n (n + 1)), .int .i64 0, .int .i64 0] (0, 0) _ rfl (by (with_reducible repeat (first | refine blk_drewN ?_ _ | refine blk_drew ?_ | refine blk_alloc ?_ _)); refine blk_put (cs := #[.int .i64 3, .string (s0_0.extract n (n + 1)), .int .i64 0, .int .i64 0]) ?_ 3 _ rfl; (with_reducible repeat (first | refine blk_drewN ?_ _ | refine blk_drew ?_ | refine blk_alloc ?_ _)); refine blk_put (cs := #[.int .i64 3, .string (s0_0.extract n (n + 1)), .int .i64 0, .int .i64 0]) ?_ 2 _ rfl; (with_reducible repeat (first | refine blk_drewN ?_ _ | refine blk_drew ?_ | refine blk_alloc ?_ _)); refine blk_put (cs := #[.int .i64 3, .string (⟨#[]⟩ : ByteArray), .int .i64 0, .int .i64 0]) ?_ 1 _ rfl; (with_reducible repeat (first | refine blk_drewN ?_ _ | refine blk_drew ?_ | refine blk_alloc ?_ _)); refine blk_put (cs := #[.int .i64 0, .string (⟨#[]⟩ : ByteArray), .int .i64 0, .int .i64 0]) ?_ 0 _ rfl; (with_reducible repeat (first | refine blk_drewN ?_ _ | refine blk_drew ?_ | refine blk_alloc ?_ _)); exact BK.out) Tryd.underlying29 rfl (by kernel_rfl)) rfl ?_
    exact ⟨rfl, (by repeat (first | (with_reducible first | exact HI0.out | apply IsS55.alloc | apply IsS55.drewN | apply IsS55.drew | apply IsS55.set_0 | apply IsS55.set_1 | refine IsS55.far ?_ NB.out _) | exact HI0.out)), (by repeat (first | (with_reducible first | exact HB.out | apply below_alloc | apply pw_below_drewN | apply below_drew1 | refine below_set ?_ (Nat.le_trans HL.out GW.out)) | exact HB.out)), (by repeat (first | (with_reducible first | exact HK.out | apply KeepBut.set_ | apply keep_drewN | apply keep_drew | apply keep_alloc | refine keep_far ?_ GW.out _) | exact HK.out))⟩
  · cases h

end Go.Proofs.YtngcojabofkbjaaDoor.P
