/- token's reader: num; strconv.ParseInt and FormatInt by the shelf's contracts. -/
import Derived.Test.YtngcojabofkbjaaDoorGShelf
import Derived.Lib.AtoiErrMem
import Derived.Test.YtngcojabofkbjaaDoorPx0
import Derived.Test.YtngcojabofkbjaaDoorPx2
import Derived.Test.YtngcojabofkbjaaDoorGDigits
import Derived.Test.YtngcojabofkbjaaDoorGGInv
import Derived.Test.YtngcojabofkbjaaDoorGWhile
namespace Go.Proofs.YtngcojabofkbjaaDoor.P
open Go.RowKit Go.Proofs.YtngcojabofkbjaaDoorW.PrintWords Go.Proofs.YtngcojabofkbjaaDoorW.PrintLast Go.Proofs.YtngcojabofkbjaaDoorW.PrintMore
attribute [local go_sem] max2_int min2_int max_two min_two max_three min_three max_four min_four   -- for this text's walks alone
set_option linter.unusedVariables false
set_option linter.unusedSimpArgs false

/-- What a number's text spells; whether it is one. -/
def numV (l : List UInt8) : Int := match Lib.parseIntB 64 l with
  | .ok v => v
  | .range => Lib.intSat 64 l
  | _ => 0
def numOk (l : List UInt8) : Bool := match Lib.parseIntB 64 l with
  | .ok v => decide (Lib.itoa v = l)
  | _ => false
theorem parse_ok (s : ByteArray) (hs : s.size ≤ 140737488351232) (v : Int) (h : Lib.parseIntB 64 s.data.toList = .ok v) (w : World) :
    Calls Tryd.prog 57 #[.string s, .int .i64 10, .int .i64 64] w fun e w' => e = .returned (.tuple #[.int .i64 v, .nilIface]) ∧ Below w.heap.size w w' := by
  refine (Tryd.strconv_ParseInt_10_at64_ok s (by omega) v h w).mono ?_
  rintro e w' ⟨rfl, rfl | ⟨t, rfl⟩⟩
  · exact ⟨rfl, Below.refl _ _⟩
  · exact ⟨rfl, Lib.bytesWorld_below w _ t⟩
theorem parse_bad (s : ByteArray) (hs : s.size ≤ 140737488351232) (h : ∀ v, Lib.parseIntB 64 s.data.toList ≠ .ok v) (w : World) (hG : GInv w) :
    Calls Tryd.prog 57 #[.string s, .int .i64 10, .int .i64 64] w fun e w' => ∃ N : Nat, e = .returned (.tuple #[.int .i64 (numV s.data.toList), .iface 114 (.pointer (some ⟨N, 0, none⟩))]) ∧ Below w.heap.size w w' := by
  obtain ⟨⟨te, pe, h1⟩, ⟨te2, pe2, h2⟩, h3, h4⟩ := hG
  unfold numV
  cases hp : Lib.parseIntB 64 s.data.toList with
  | ok v => exact absurd hp (h v)
  | range =>
    refine (Tryd.strconv_ParseInt_10_at64_range s (by omega) hp _ w h2 (.inr ⟨te2, pe2, rfl⟩)).mono ?_
    rintro e w' ⟨N, rfl, _, _, hb⟩
    exact ⟨N, rfl, hb⟩
  | _ =>
    refine (Tryd.strconv_ParseInt_10_at64_syntax s (by omega) ⟨h, by rw [hp]; intro e; cases e⟩ _ w h1 (.inr ⟨te, pe, rfl⟩)).mono ?_
    rintro e w' ⟨N, rfl, _, _, hb⟩
    exact ⟨N, rfl, hb⟩
theorem toList_inj {a b : ByteArray} (h : a.toList = b.toList) : a = b := by
  rw [ByteArray.toList_eq, ByteArray.toList_eq] at h
  cases a with | mk a => cases b with | mk b => exact congrArg ByteArray.mk (Array.toList_inj.mp h)
theorem parse_range (l : List UInt8) (v : Int) (h : Lib.parseIntB 64 l = .ok v) : -9223372036854775808 ≤ v ∧ v ≤ 9223372036854775807 := by
  have e : (2 : Nat) ^ (64 - 1) = 9223372036854775808 := by decide
  unfold Lib.parseIntB at h
  split at h
  · cases h
  · simp only [e] at h
    split at h
    · cases h
    · cases h
    · split at h
      · cases h
      · split at h
        · cases h
        · injection h with h
          subst h
          split <;> omega
def token_reader_num.f (s0_0 : ByteArray) (s0_1 : Int) : Option (Int × ByteArray × Int × Int × Bool × ByteArray × Int) :=
  (token_reader_while.f s0_0 s0_1 56).bind fun r => some (1, r.1, numV r.1.data.toList, 0, numOk r.1.data.toList, r.2.1, r.2.2)
set_option maxHeartbeats 4000000 in
set_option maxRecDepth 100000 in
theorem token_reader_num.calls (g : Nat) (s0_0 : ByteArray) (s0_1 : Int) (r1 : Int) (r2 : ByteArray) (r3 : Int) (r4 : Int) (r5 : Bool) (r6 : ByteArray) (r7 : Int) (w0 w : World) (hI : IsS55 w0 w g s0_0 s0_1) (hB : Below w0.heap.size w0 w) (hG : GInv w0) (h : token_reader_num.f s0_0 s0_1 = some (r1, r2, r3, r4, r5, r6, r7)) :
    Calls Tryd.prog 34 #[.pointer (some ⟨g, 0, none⟩)] w fun e w' => e = .returned (.tuple #[.agg #[.int .i64 r1, .string r2, .int .i64 r3, .int .i64 r4], .bool r5]) ∧ IsS55 w0 w' g r6 r7 ∧ Below w0.heap.size w0 w' ∧ KeepBut w w' g none := by
  unfold token_reader_num.f at h
  obtain ⟨⟨t1, t2, t3⟩, A0, h⟩ := Option.bind_eq_some_iff.mp h
  simp only [Option.some.injEq, Prod.mk.injEq] at h
  obtain ⟨rfl, rfl, rfl, rfl, rfl, rfl, rfl⟩ := h
  have hsz : t1.size ≤ 140737488351232 := by
    unfold token_reader_while.f at A0
    split at A0
    · rename_i hc
      split at A0
      · simp only [Option.some.injEq, Prod.mk.injEq] at A0
        obtain ⟨rfl, _⟩ := A0
        simp only [ByteArray.size_extract]; omega
      · split at A0
        · simp only [Option.some.injEq, Prod.mk.injEq] at A0
          obtain ⟨rfl, _⟩ := A0
          simp only [ByteArray.size_extract]; omega
        · cases A0
    · cases A0
  have A2 := Aside0.mk A0
  clear A0
  have HI0 := Aside0.mk hI
  have HK := Aside0.mk (KeepBut.refl w g none)
  have HL := Aside0.mk hB.size
  have HB := Aside0.mk hB
  clear hI hB
  have hu := Tryd.underlying29
  by_cases hok : ∃ v, Lib.parseIntB 64 t1.data.toList = .ok v
  · obtain ⟨v, hv⟩ := hok
    have e1 : numV t1.data.toList = v := by unfold numV; rw [hv]
    have e2 : numOk t1.data.toList = decide (Lib.itoa v = t1.data.toList) := by unfold numOk; rw [hv]
    have hbd := parse_range _ _ hv
    have HP := Aside0.mk (fun W => parse_ok t1 hsz v hv W)
    have HF := Aside0.mk (fun W hG => format_any v hbd.1 hbd.2 W hG)
    rw [e1, e2]
    clear e1 e2 hv hbd h
    by_cases he : Lib.itoa v = t1.data.toList
    · have hs : (⟨(Lib.itoa v).toArray⟩ : ByteArray) = t1 := by rw [he]
      rw [hs] at HF
      rw [decide_eq_true he]
      clear hs he
      go_enter Tryd.func34, Tryd.ntmps34
      go_wp2_with (first
        | ((with_reducible refine gate_dst (N := 2) rfl ?_); refine box_event ?hg (N := 2) ?hd (cs := #[.int .i64 0, .string (⟨#[]⟩ : ByteArray), .int .i64 0, .int .i64 0]) (t := 29) ?hr ?_; (case hd => rfl); (case hg => rfl); (case hr => first | (go_simp; done) | (go_simp; rfl)); intro gb hg w3 hbox hb; have n0_ := Aside0.mk (IsS55.below (by repeat (first | (with_reducible first | exact HI0.out | apply IsS55.alloc | apply IsS55.drewN | apply IsS55.drew | apply IsS55.set_0 | apply IsS55.set_1) | exact HI0.out)) hb); have n1_ := Aside0.mk (KeepBut.trans (by repeat (first | (with_reducible first | exact HK.out | apply KeepBut.set_ | apply keep_drewN | apply keep_drew | apply keep_alloc) | exact HK.out)) (KeepBut.of_below hb g none) (.inl rfl)); have n2_ := Aside0.mk (below_step (by repeat (first | (with_reducible first | exact HB.out | apply below_alloc | apply pw_below_drewN | apply below_drew1) | exact HB.out)) hb); have n3_ := Aside0.mk hbox; have n4_ := Aside0.mk ((by rw [hg]; exact (keep_size (w := w) (g := g) (row := none) (by repeat (first | (with_reducible first | exact HK.out | apply KeepBut.set_ | apply keep_drewN | apply keep_drew | apply keep_alloc) | exact HK.out)))) : w.heap.size ≤ gb); have n6_ := Aside0.mk ((by rw [hg]; exact Nat.ne_of_lt (IsS55.lt (show IsS55 w0 _ g s0_0 s0_1 from (by repeat (first | (with_reducible first | exact HI0.out | apply IsS55.alloc | apply IsS55.drewN | apply IsS55.drew | apply IsS55.set_0 | apply IsS55.set_1) | exact HI0.out))))) : g ≠ gb); clear HI0 HK HB; have HI0 := n0_; have HK := n1_; have HB := n2_; have BK := n3_; have GW := n4_; have NB := n6_; clear n0_ n1_ n2_ n3_ n4_ n6_; clear hb hbox hg)
        | ((with_reducible refine gate_callee (f := 54) rfl ?_); refine goesL_ (some 8) rfl rfl Tryd.func54 (by kernel_rfl) rfl #[.pointer (some ⟨g, 0, none⟩), .func (.func 56) #[] #[]] rfl (by (try simp only [List.map_toArray, List.map_cons, List.map_nil]); first | done | rfl) ?_; (with_reducible refine (token_reader_while.calls g s0_0 s0_1 56 t1 t2 t3 w0 _ ?side1 ?side2 A2.out).mono ?_); (case side1 => exact (by repeat (first | (with_reducible first | exact HI0.out | apply IsS55.alloc | apply IsS55.drewN | apply IsS55.drew | apply IsS55.set_0 | apply IsS55.set_1) | exact HI0.out))); (case side2 => exact (by repeat (first | (with_reducible first | exact HB.out | apply below_alloc | apply pw_below_drewN | apply below_drew1) | exact HB.out))); rintro e w4 ⟨rfl, hi, hb, hk⟩; refine ⟨_, rfl, ?_⟩; have n0_ := Aside0.mk (KeepBut.blk hk (g' := gb) (o := .cells #[.int .i64 0, .string (⟨#[]⟩ : ByteArray), .int .i64 0, .int .i64 0] 29 (0, 0)) BK.out NB.out.symm (by simp)); have n1_ := Aside0.mk (KeepBut.trans (by repeat (first | (with_reducible first | exact HK.out | apply KeepBut.set_ | apply keep_drewN | apply keep_drew | apply keep_alloc) | exact HK.out)) hk (.inl rfl)); have n2_ := Aside0.mk hb; have n3_ := Aside0.mk hi; clear BK HK HB HI0; have BK := n0_; have HK := n1_; have HB := n2_; have HI0 := n3_; clear n0_ n1_ n2_ n3_ hb hi hk)
        | (go_at_call 57; refine (HP.out _).mono ?_; rintro e w5 ⟨rfl, hb⟩; have n0_ := Aside0.mk ((hb.block gb (blk_lt BK.out)).trans BK.out); have n1_ := Aside0.mk (KeepBut.trans HK.out (KeepBut.of_below hb g none) (.inl rfl)); have n2_ := Aside0.mk (below_step HB.out hb); have n3_ := Aside0.mk (IsS55.below HI0.out hb); clear BK HK HB HI0; have BK := n0_; have HK := n1_; have HB := n2_; have HI0 := n3_; clear n0_ n1_ n2_ n3_ hb)
        | (go_at_call 44; refine (HF.out _ ?side1).mono ?_; (case side1 => exact hG.below HB.out); rintro e w6 ⟨rfl, hb⟩; have n0_ := Aside0.mk ((hb.block gb (blk_lt BK.out)).trans BK.out); have n1_ := Aside0.mk (KeepBut.trans HK.out (KeepBut.of_below hb g none) (.inl rfl)); have n2_ := Aside0.mk (below_step HB.out hb); have n3_ := Aside0.mk (IsS55.below HI0.out hb); clear BK HK HB HI0; have BK := n0_; have HK := n1_; have HB := n2_; have HI0 := n3_; clear n0_ n1_ n2_ n3_ hb; have z0 : _ = some (Value.int .i64 0) := (blk_cell BK.out 0).trans rfl; have z1 : _ = some (Value.string (⟨#[]⟩ : ByteArray)) := (blk_cell BK.out 1).trans rfl; have z2 : _ = some (Value.int .i64 0) := (blk_cell BK.out 2).trans rfl; have z3 : _ = some (Value.int .i64 0) := (blk_cell BK.out 3).trans rfl; have y0 := blk_frozen BK.out 0; have y1 := blk_frozen BK.out 1; have y2 := blk_frozen BK.out 2; have y3 := blk_frozen BK.out 3))
      refine bodyPost_ret (results_ct rfl _ _ gb 29 #[.int .i64 1, .string t1, .int .i64 v, .int .i64 0] (0, 0) _ rfl (by (with_reducible repeat (first | refine blk_drewN ?_ _ | refine blk_drew ?_ | refine blk_alloc ?_ _)); refine blk_put (cs := #[.int .i64 1, .string t1, .int .i64 v, .int .i64 0]) ?_ 3 _ rfl; (with_reducible repeat (first | refine blk_drewN ?_ _ | refine blk_drew ?_ | refine blk_alloc ?_ _)); refine blk_put (cs := #[.int .i64 1, .string t1, .int .i64 0, .int .i64 0]) ?_ 2 _ rfl; (with_reducible repeat (first | refine blk_drewN ?_ _ | refine blk_drew ?_ | refine blk_alloc ?_ _)); refine blk_put (cs := #[.int .i64 1, .string (⟨#[]⟩ : ByteArray), .int .i64 0, .int .i64 0]) ?_ 1 _ rfl; (with_reducible repeat (first | refine blk_drewN ?_ _ | refine blk_drew ?_ | refine blk_alloc ?_ _)); refine blk_put (cs := #[.int .i64 0, .string (⟨#[]⟩ : ByteArray), .int .i64 0, .int .i64 0]) ?_ 0 _ rfl; (with_reducible repeat (first | refine blk_drewN ?_ _ | refine blk_drew ?_ | refine blk_alloc ?_ _)); exact BK.out) Tryd.underlying29 rfl (by kernel_rfl)) rfl ?_
      exact ⟨rfl, (by repeat (first | (with_reducible first | exact HI0.out | apply IsS55.alloc | apply IsS55.drewN | apply IsS55.drew | apply IsS55.set_0 | apply IsS55.set_1 | refine IsS55.far ?_ NB.out _) | exact HI0.out)), (by repeat (first | (with_reducible first | exact HB.out | apply below_alloc | apply pw_below_drewN | apply below_drew1 | refine below_set ?_ (Nat.le_trans HL.out GW.out)) | exact HB.out)), (by repeat (first | (with_reducible first | exact HK.out | apply KeepBut.set_ | apply keep_drewN | apply keep_drew | apply keep_alloc | refine keep_far ?_ GW.out _) | exact HK.out))⟩
    · have hs : (⟨(Lib.itoa v).toArray⟩ : ByteArray) ≠ t1 := fun e => he (by rw [← e])
      rw [decide_eq_false he]
      clear he
      generalize (⟨(Lib.itoa v).toArray⟩ : ByteArray) = f at *
      have q2 : (f.toList == t1.toList) = false := by rw [beq_eq_false_iff_ne]; exact fun e => hs (toList_inj e)
      have q3 : decide (f = t1) = false := decide_eq_false hs
      clear hs
      go_enter Tryd.func34, Tryd.ntmps34
      go_wp2_with (first
        | ((with_reducible refine gate_dst (N := 2) rfl ?_); refine box_event ?hg (N := 2) ?hd (cs := #[.int .i64 0, .string (⟨#[]⟩ : ByteArray), .int .i64 0, .int .i64 0]) (t := 29) ?hr ?_; (case hd => rfl); (case hg => rfl); (case hr => first | (go_simp; done) | (go_simp; rfl)); intro gb hg w3 hbox hb; have n0_ := Aside0.mk (IsS55.below (by repeat (first | (with_reducible first | exact HI0.out | apply IsS55.alloc | apply IsS55.drewN | apply IsS55.drew | apply IsS55.set_0 | apply IsS55.set_1) | exact HI0.out)) hb); have n1_ := Aside0.mk (KeepBut.trans (by repeat (first | (with_reducible first | exact HK.out | apply KeepBut.set_ | apply keep_drewN | apply keep_drew | apply keep_alloc) | exact HK.out)) (KeepBut.of_below hb g none) (.inl rfl)); have n2_ := Aside0.mk (below_step (by repeat (first | (with_reducible first | exact HB.out | apply below_alloc | apply pw_below_drewN | apply below_drew1) | exact HB.out)) hb); have n3_ := Aside0.mk hbox; have n4_ := Aside0.mk ((by rw [hg]; exact (keep_size (w := w) (g := g) (row := none) (by repeat (first | (with_reducible first | exact HK.out | apply KeepBut.set_ | apply keep_drewN | apply keep_drew | apply keep_alloc) | exact HK.out)))) : w.heap.size ≤ gb); have n6_ := Aside0.mk ((by rw [hg]; exact Nat.ne_of_lt (IsS55.lt (show IsS55 w0 _ g s0_0 s0_1 from (by repeat (first | (with_reducible first | exact HI0.out | apply IsS55.alloc | apply IsS55.drewN | apply IsS55.drew | apply IsS55.set_0 | apply IsS55.set_1) | exact HI0.out))))) : g ≠ gb); clear HI0 HK HB; have HI0 := n0_; have HK := n1_; have HB := n2_; have BK := n3_; have GW := n4_; have NB := n6_; clear n0_ n1_ n2_ n3_ n4_ n6_; clear hb hbox hg)
        | ((with_reducible refine gate_callee (f := 54) rfl ?_); refine goesL_ (some 8) rfl rfl Tryd.func54 (by kernel_rfl) rfl #[.pointer (some ⟨g, 0, none⟩), .func (.func 56) #[] #[]] rfl (by (try simp only [List.map_toArray, List.map_cons, List.map_nil]); first | done | rfl) ?_; (with_reducible refine (token_reader_while.calls g s0_0 s0_1 56 t1 t2 t3 w0 _ ?side1 ?side2 A2.out).mono ?_); (case side1 => exact (by repeat (first | (with_reducible first | exact HI0.out | apply IsS55.alloc | apply IsS55.drewN | apply IsS55.drew | apply IsS55.set_0 | apply IsS55.set_1) | exact HI0.out))); (case side2 => exact (by repeat (first | (with_reducible first | exact HB.out | apply below_alloc | apply pw_below_drewN | apply below_drew1) | exact HB.out))); rintro e w4 ⟨rfl, hi, hb, hk⟩; refine ⟨_, rfl, ?_⟩; have n0_ := Aside0.mk (KeepBut.blk hk (g' := gb) (o := .cells #[.int .i64 0, .string (⟨#[]⟩ : ByteArray), .int .i64 0, .int .i64 0] 29 (0, 0)) BK.out NB.out.symm (by simp)); have n1_ := Aside0.mk (KeepBut.trans (by repeat (first | (with_reducible first | exact HK.out | apply KeepBut.set_ | apply keep_drewN | apply keep_drew | apply keep_alloc) | exact HK.out)) hk (.inl rfl)); have n2_ := Aside0.mk hb; have n3_ := Aside0.mk hi; clear BK HK HB HI0; have BK := n0_; have HK := n1_; have HB := n2_; have HI0 := n3_; clear n0_ n1_ n2_ n3_ hb hi hk)
        | (go_at_call 57; refine (HP.out _).mono ?_; rintro e w5 ⟨rfl, hb⟩; have n0_ := Aside0.mk ((hb.block gb (blk_lt BK.out)).trans BK.out); have n1_ := Aside0.mk (KeepBut.trans HK.out (KeepBut.of_below hb g none) (.inl rfl)); have n2_ := Aside0.mk (below_step HB.out hb); have n3_ := Aside0.mk (IsS55.below HI0.out hb); clear BK HK HB HI0; have BK := n0_; have HK := n1_; have HB := n2_; have HI0 := n3_; clear n0_ n1_ n2_ n3_ hb)
        | (go_at_call 44; refine (HF.out _ ?side1).mono ?_; (case side1 => exact hG.below HB.out); rintro e w6 ⟨rfl, hb⟩; have n0_ := Aside0.mk ((hb.block gb (blk_lt BK.out)).trans BK.out); have n1_ := Aside0.mk (KeepBut.trans HK.out (KeepBut.of_below hb g none) (.inl rfl)); have n2_ := Aside0.mk (below_step HB.out hb); have n3_ := Aside0.mk (IsS55.below HI0.out hb); clear BK HK HB HI0; have BK := n0_; have HK := n1_; have HB := n2_; have HI0 := n3_; clear n0_ n1_ n2_ n3_ hb; have z0 : _ = some (Value.int .i64 0) := (blk_cell BK.out 0).trans rfl; have z1 : _ = some (Value.string (⟨#[]⟩ : ByteArray)) := (blk_cell BK.out 1).trans rfl; have z2 : _ = some (Value.int .i64 0) := (blk_cell BK.out 2).trans rfl; have z3 : _ = some (Value.int .i64 0) := (blk_cell BK.out 3).trans rfl; have y0 := blk_frozen BK.out 0; have y1 := blk_frozen BK.out 1; have y2 := blk_frozen BK.out 2; have y3 := blk_frozen BK.out 3))
      refine bodyPost_ret (results_ct rfl _ _ gb 29 #[.int .i64 1, .string t1, .int .i64 v, .int .i64 0] (0, 0) _ rfl (by (with_reducible repeat (first | refine blk_drewN ?_ _ | refine blk_drew ?_ | refine blk_alloc ?_ _)); refine blk_put (cs := #[.int .i64 1, .string t1, .int .i64 v, .int .i64 0]) ?_ 3 _ rfl; (with_reducible repeat (first | refine blk_drewN ?_ _ | refine blk_drew ?_ | refine blk_alloc ?_ _)); refine blk_put (cs := #[.int .i64 1, .string t1, .int .i64 0, .int .i64 0]) ?_ 2 _ rfl; (with_reducible repeat (first | refine blk_drewN ?_ _ | refine blk_drew ?_ | refine blk_alloc ?_ _)); refine blk_put (cs := #[.int .i64 1, .string (⟨#[]⟩ : ByteArray), .int .i64 0, .int .i64 0]) ?_ 1 _ rfl; (with_reducible repeat (first | refine blk_drewN ?_ _ | refine blk_drew ?_ | refine blk_alloc ?_ _)); refine blk_put (cs := #[.int .i64 0, .string (⟨#[]⟩ : ByteArray), .int .i64 0, .int .i64 0]) ?_ 0 _ rfl; (with_reducible repeat (first | refine blk_drewN ?_ _ | refine blk_drew ?_ | refine blk_alloc ?_ _)); exact BK.out) Tryd.underlying29 rfl (by kernel_rfl)) rfl ?_
      exact ⟨rfl, (by repeat (first | (with_reducible first | exact HI0.out | apply IsS55.alloc | apply IsS55.drewN | apply IsS55.drew | apply IsS55.set_0 | apply IsS55.set_1 | refine IsS55.far ?_ NB.out _) | exact HI0.out)), (by repeat (first | (with_reducible first | exact HB.out | apply below_alloc | apply pw_below_drewN | apply below_drew1 | refine below_set ?_ (Nat.le_trans HL.out GW.out)) | exact HB.out)), (by repeat (first | (with_reducible first | exact HK.out | apply KeepBut.set_ | apply keep_drewN | apply keep_drew | apply keep_alloc | refine keep_far ?_ GW.out _) | exact HK.out))⟩
  · have hbad : ∀ v, Lib.parseIntB 64 t1.data.toList ≠ .ok v := fun v e => hok ⟨v, e⟩
    have e2 : numOk t1.data.toList = false := by unfold numOk; cases hp : Lib.parseIntB 64 t1.data.toList <;> simp_all
    have HP := Aside0.mk (fun W hG => parse_bad t1 hsz hbad W hG)
    rw [e2]
    clear e2 hok hbad h
    generalize numV t1.data.toList = v at *
    go_enter Tryd.func34, Tryd.ntmps34
    go_wp2_with (first
      | ((with_reducible refine gate_dst (N := 2) rfl ?_); refine box_event ?hg (N := 2) ?hd (cs := #[.int .i64 0, .string (⟨#[]⟩ : ByteArray), .int .i64 0, .int .i64 0]) (t := 29) ?hr ?_; (case hd => rfl); (case hg => rfl); (case hr => first | (go_simp; done) | (go_simp; rfl)); intro gb hg w3 hbox hb; have n0_ := Aside0.mk (IsS55.below (by repeat (first | (with_reducible first | exact HI0.out | apply IsS55.alloc | apply IsS55.drewN | apply IsS55.drew | apply IsS55.set_0 | apply IsS55.set_1) | exact HI0.out)) hb); have n1_ := Aside0.mk (KeepBut.trans (by repeat (first | (with_reducible first | exact HK.out | apply KeepBut.set_ | apply keep_drewN | apply keep_drew | apply keep_alloc) | exact HK.out)) (KeepBut.of_below hb g none) (.inl rfl)); have n2_ := Aside0.mk (below_step (by repeat (first | (with_reducible first | exact HB.out | apply below_alloc | apply pw_below_drewN | apply below_drew1) | exact HB.out)) hb); have n3_ := Aside0.mk hbox; have n4_ := Aside0.mk ((by rw [hg]; exact (keep_size (w := w) (g := g) (row := none) (by repeat (first | (with_reducible first | exact HK.out | apply KeepBut.set_ | apply keep_drewN | apply keep_drew | apply keep_alloc) | exact HK.out)))) : w.heap.size ≤ gb); have n6_ := Aside0.mk ((by rw [hg]; exact Nat.ne_of_lt (IsS55.lt (show IsS55 w0 _ g s0_0 s0_1 from (by repeat (first | (with_reducible first | exact HI0.out | apply IsS55.alloc | apply IsS55.drewN | apply IsS55.drew | apply IsS55.set_0 | apply IsS55.set_1) | exact HI0.out))))) : g ≠ gb); clear HI0 HK HB; have HI0 := n0_; have HK := n1_; have HB := n2_; have BK := n3_; have GW := n4_; have NB := n6_; clear n0_ n1_ n2_ n3_ n4_ n6_; clear hb hbox hg)
      | ((with_reducible refine gate_callee (f := 54) rfl ?_); refine goesL_ (some 8) rfl rfl Tryd.func54 (by kernel_rfl) rfl #[.pointer (some ⟨g, 0, none⟩), .func (.func 56) #[] #[]] rfl (by (try simp only [List.map_toArray, List.map_cons, List.map_nil]); first | done | rfl) ?_; (with_reducible refine (token_reader_while.calls g s0_0 s0_1 56 t1 t2 t3 w0 _ ?side1 ?side2 A2.out).mono ?_); (case side1 => exact (by repeat (first | (with_reducible first | exact HI0.out | apply IsS55.alloc | apply IsS55.drewN | apply IsS55.drew | apply IsS55.set_0 | apply IsS55.set_1) | exact HI0.out))); (case side2 => exact (by repeat (first | (with_reducible first | exact HB.out | apply below_alloc | apply pw_below_drewN | apply below_drew1) | exact HB.out))); rintro e w4 ⟨rfl, hi, hb, hk⟩; refine ⟨_, rfl, ?_⟩; have n0_ := Aside0.mk (KeepBut.blk hk (g' := gb) (o := .cells #[.int .i64 0, .string (⟨#[]⟩ : ByteArray), .int .i64 0, .int .i64 0] 29 (0, 0)) BK.out NB.out.symm (by simp)); have n1_ := Aside0.mk (KeepBut.trans (by repeat (first | (with_reducible first | exact HK.out | apply KeepBut.set_ | apply keep_drewN | apply keep_drew | apply keep_alloc) | exact HK.out)) hk (.inl rfl)); have n2_ := Aside0.mk hb; have n3_ := Aside0.mk hi; clear BK HK HB HI0; have BK := n0_; have HK := n1_; have HB := n2_; have HI0 := n3_; clear n0_ n1_ n2_ n3_ hb hi hk)
      | (go_at_call 57; refine (HP.out _ ?side1).mono ?_; (case side1 => exact hG.below (by repeat (first | (with_reducible first | exact HB.out | apply below_alloc | apply pw_below_drewN | apply below_drew1) | exact HB.out))); rintro e w5 ⟨N, rfl, hb⟩; have n0_ := Aside0.mk ((hb.block gb (blk_lt BK.out)).trans BK.out); have n1_ := Aside0.mk (KeepBut.trans HK.out (KeepBut.of_below hb g none) (.inl rfl)); have n2_ := Aside0.mk (below_step HB.out hb); have n3_ := Aside0.mk (IsS55.below HI0.out hb); clear BK HK HB HI0; have BK := n0_; have HK := n1_; have HB := n2_; have HI0 := n3_; clear n0_ n1_ n2_ n3_ hb; have z0 : _ = some (Value.int .i64 0) := (blk_cell BK.out 0).trans rfl; have z1 : _ = some (Value.string (⟨#[]⟩ : ByteArray)) := (blk_cell BK.out 1).trans rfl; have z2 : _ = some (Value.int .i64 0) := (blk_cell BK.out 2).trans rfl; have z3 : _ = some (Value.int .i64 0) := (blk_cell BK.out 3).trans rfl; have y0 := blk_frozen BK.out 0; have y1 := blk_frozen BK.out 1; have y2 := blk_frozen BK.out 2; have y3 := blk_frozen BK.out 3))
    refine bodyPost_ret (results_ct rfl _ _ gb 29 #[.int .i64 1, .string t1, .int .i64 v, .int .i64 0] (0, 0) _ rfl (by (with_reducible repeat (first | refine blk_drewN ?_ _ | refine blk_drew ?_ | refine blk_alloc ?_ _)); refine blk_put (cs := #[.int .i64 1, .string t1, .int .i64 v, .int .i64 0]) ?_ 3 _ rfl; (with_reducible repeat (first | refine blk_drewN ?_ _ | refine blk_drew ?_ | refine blk_alloc ?_ _)); refine blk_put (cs := #[.int .i64 1, .string t1, .int .i64 0, .int .i64 0]) ?_ 2 _ rfl; (with_reducible repeat (first | refine blk_drewN ?_ _ | refine blk_drew ?_ | refine blk_alloc ?_ _)); refine blk_put (cs := #[.int .i64 1, .string (⟨#[]⟩ : ByteArray), .int .i64 0, .int .i64 0]) ?_ 1 _ rfl; (with_reducible repeat (first | refine blk_drewN ?_ _ | refine blk_drew ?_ | refine blk_alloc ?_ _)); refine blk_put (cs := #[.int .i64 0, .string (⟨#[]⟩ : ByteArray), .int .i64 0, .int .i64 0]) ?_ 0 _ rfl; (with_reducible repeat (first | refine blk_drewN ?_ _ | refine blk_drew ?_ | refine blk_alloc ?_ _)); exact BK.out) Tryd.underlying29 rfl (by kernel_rfl)) rfl ?_
    exact ⟨rfl, (by repeat (first | (with_reducible first | exact HI0.out | apply IsS55.alloc | apply IsS55.drewN | apply IsS55.drew | apply IsS55.set_0 | apply IsS55.set_1 | refine IsS55.far ?_ NB.out _) | exact HI0.out)), (by repeat (first | (with_reducible first | exact HB.out | apply below_alloc | apply pw_below_drewN | apply below_drew1 | refine below_set ?_ (Nat.le_trans HL.out GW.out)) | exact HB.out)), (by repeat (first | (with_reducible first | exact HK.out | apply KeepBut.set_ | apply keep_drewN | apply keep_drew | apply keep_alloc | refine keep_far ?_ GW.out _) | exact HK.out))⟩

end Go.Proofs.YtngcojabofkbjaaDoor.P
