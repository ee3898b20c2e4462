/- Part 4 of what the law ProtoPlace leans on: contracts of the functions that it reaches, and plain lemmas; printed walks and words (by the kit's print, through wip/mp.py) and the session's own texts, one behind the other, what is not used left out (wip/prune.py). -/
import Derived.Lib.Strings
import Derived.Lib.Slices
import Derived.Lib.Walk
import Derived.Lib.Builder
import Derived.Lib.AppendStr
import Derived.Lib.UnsafeStr
import Derived.Lib.MakeNoZero
import Derived.Laws.Externs
import Derived.Maps.Own
import Derived.Maps.OwnSet
import Derived.Maps.Views
import Derived.Lib.SmallJoins
import Derived.Lib.ItoaMem
import Derived.Test.YtddpjjhekhompaaDoorMProtoPlace1
import Derived.Test.YtddpjjhekhompaaDoorMProtoPlace2
import Derived.Test.YtddpjjhekhompaaDoorMProtoPlace3
namespace Go.Proofs.YtddpjjhekhompaaDoor.P
open Go.RowKit Go.Proofs.YtddpjjhekhompaaDoorW.PrintWords Go.Proofs.YtddpjjhekhompaaDoorW.PrintLast Go.Proofs.YtddpjjhekhompaaDoorW.PrintMore
set_option linter.unusedVariables false
set_option linter.unusedSimpArgs false
set_option maxHeartbeats 2000000 in
set_option maxRecDepth 100000 in
theorem res_s {B p g h : Nat} {W : World} {l : TL} {e : Int} {s : PS} {nm : ByteArray} {m : MAcc} {a : Int} {vF vO vR : Value} (H : TS B W p g l e s) (HM : MB B W h nm m a vF vO vR) (hl : fewM m) : Calls Tryd.prog 43 #[.pointer (some ⟨p, 0, none⟩), .pointer (some ⟨h, 0, none⟩)] W (ItemP B W p g h l e nm (pRes m e s).1 a (pRes m e s).2) := by
  have HT := Aside0.mk H
  have HL0 := Aside0.mk H.lens.2.1
  have HG0 := Aside0.mk H.lens.2.2.2.1
  have HLEN := Aside0.mk hl
  obtain ⟨AR, cR, rfl⟩ := Kd.R_slice HM.rR
  have HM0 := Aside0.mk HM
  have hc := H.par
  have q2 := tok_f2
  clear H hl HM
  unfold pRes
  obtain ⟨R, hR⟩ : ∃ R, pNums ((pTake 0 s).2.r.length + 1) m.2.2 (pTake 0 s).2 = R := ⟨_, rfl⟩
  have HR := Aside0.mk hR
  dsimp only
  rw [hR]
  clear hR
  go_enter Tryd.func43, Tryd.ntmps43
  have HF := Aside0.mk (Fr.refl W.heap.size g W)
  go_wp2_with fail
  go_at_call 22
  refine (take_s 0 HT.out).mono ?_
  rintro en_ W0 ⟨rfl, h1, f1⟩
  have n1_ := Aside0.mk h1
  have n2_ := Aside0.mk (HF.out.trans (f1.mono HF.out.size))
  clear hc HT HF
  have hc := h1.par
  have HT := n1_
  have HF := n2_
  clear h1 f1 n1_ n2_
  have n1_ := HT
  have n2_ := Aside0.mk (HM0.out.keep HF.out HG0.out)
  have n3_ := Aside0.mk (HF.out.mono HL0.out)
  clear HT HM0 HF hc
  obtain ⟨S0, hS0⟩ : ∃ S0, (pTake 0 s).2 = S0 := ⟨_, rfl⟩
  rw [hS0] at n1_ HR
  clear hS0
  go_wp2
  go_loopg [9] (S0.r.length + 1) (fun n _ V => ∃ (l1 : List Int) (s1 : PS) (A2 : Option Addr) (c2 : Nat), Aside0 (TS B V p g l e s1) ∧ Aside0 (MB B V h nm (m.1, m.2.1, l1) a vF vO (.slice A2 l1.length c2)) ∧ Aside0 (Fr B g W V) ∧ Aside0 (pNums n l1 s1 = R) ∧ Aside0 (s1.r.length < n ∧ l1.length + n ≤ 1100000))
  case atStart => exact ⟨m.2.2, S0, AR, cR, n1_, n2_, n3_, HR, ⟨Nat.lt_succ_self _, by have h1 := HLEN.out.2.2; have := n1_.out.lens.1; omega⟩⟩
  case round =>
    clear n1_ n2_ n3_ HR
    obtain ⟨l1, s1, A2, c2, n1_, n2_, n3_, HR, HN⟩ := hrel
    cases gk with
    | zero => have := HN.out; omega
    | succ k1 =>
      have hR2 := HR.out
      rw [pNums] at hR2
      have HR2 := Aside0.mk hR2
      have HLT := Aside0.mk (take_shorter s1)
      clear hR2 HR
      go_wp2_with fail
      have HT := Aside0.mk n1_.out.drew
      have HM := Aside0.mk (n2_.out.below (Below.refl _ wr).drew)
      have HF := Aside0.mk n3_.out.drew
      have hc := n1_.out.par
      have hc3 : wr.cell? ⟨h, 3, none⟩ = some (.slice A2 l1.length c2) := (blk_cell n2_.out.blk 3).trans rfl
      have HL : Aside0 (B ≤ wr.drew.heap.size) := ⟨n1_.out.lens.2.1⟩
      have HLE : Aside0 (l1.length ≤ 1100000) := ⟨by have := HN.out; omega⟩
      clear n1_ n2_ n3_
      refine start_ (n := 16) (S := fun w' => w'.cell? ⟨h, 3, none⟩ = some (.slice A2 l1.length c2) ∧ w'.cell? ⟨p, 0, none⟩ = some (.pointer (some ⟨g, 0, none⟩))) (ds := [12, 15]) #[false, false, false, false, false, false, false, false, false, false, false, false, false, false, false, false] (by kernel_rfl) rfl rfl ⟨hc3, hc⟩ (fun hHeld => ?_)
      generalize wr.drew = WD at *
      refine pure_ (i := 0) (N := some 9) (v := ?_) (a' := ?_) #[true, false, false, false, false, false, false, false, false, false, false, false, false, false, false, false] rfl rfl (by kernel_rfl) (fun _ _ _ h => h) (Or.inl ⟨by rfl, ?_⟩) ?_ ?_
      rotate_left
      · intro w'
        go_simp
        with_reducible rfl
      rotate_left
      · simp only [Act.put, List.setIfInBounds_toArray, List.set_cons_zero, List.set_cons_succ]
        rfl
      refine pure_ (i := 1) (N := some 10) (v := ?_) (a' := ?_) #[true, true, false, false, false, false, false, false, false, false, false, false, false, false, false, false] rfl rfl (by kernel_rfl) (fun _ _ _ h => h) (Or.inl ⟨by rfl, ?_⟩) ?_ ?_
      rotate_left
      · intro w'
        go_simp
        with_reducible rfl
      rotate_left
      · simp only [Act.put, List.setIfInBounds_toArray, List.set_cons_zero, List.set_cons_succ]
        rfl
      refine pure_ (i := 2) (N := some 11) (v := ?_) (a' := ?_) #[true, true, true, false, false, false, false, false, false, false, false, false, false, false, false, false] rfl rfl (by kernel_rfl) (fun _ _ _ h => h) (Or.inl ⟨by rfl, ?_⟩) ?_ ?_
      rotate_left
      · intro w'
        go_simp
        with_reducible rfl
      rotate_left
      · simp only [Act.put, List.setIfInBounds_toArray, List.set_cons_zero, List.set_cons_succ]
        rfl
      refine pure_ (i := 3) (N := some 12) (v := ?_) (a' := ?_) #[true, true, true, true, false, false, false, false, false, false, false, false, false, false, false, false] rfl rfl (by kernel_rfl) (fun _ _ _ h => h) (Or.inl ⟨by rfl, ?_⟩) ?_ ?_
      rotate_left
      · intro w'
        go_simp
        with_reducible rfl
      rotate_left
      · simp only [Act.put, List.setIfInBounds_toArray, List.set_cons_zero, List.set_cons_succ]
        rfl
      refine pure_ (i := 5) (N := some 14) (v := ?_) (a' := ?_) #[true, true, true, true, false, true, false, false, false, false, false, false, false, false, false, false] rfl rfl (by kernel_rfl) (fun _ _ _ h => h) (Or.inl ⟨by rfl, ?_⟩) ?_ ?_
      rotate_left
      · intro w'
        go_simp
        with_reducible rfl
      rotate_left
      · simp only [Act.put, List.setIfInBounds_toArray, List.set_cons_zero, List.set_cons_succ]
        rfl
      refine pure_ (i := 6) (N := some 15) (v := ?_) (a' := ?_) #[true, true, true, true, false, true, true, false, false, false, false, false, false, false, false, false] rfl rfl (by kernel_rfl) (fun _ _ _ h => h) (Or.inl ⟨by rfl, ?_⟩) ?_ ?_
      rotate_left
      · intro w'
        go_simp
        with_reducible rfl
      rotate_left
      · simp only [Act.put, List.setIfInBounds_toArray, List.set_cons_zero, List.set_cons_succ]
        rfl
      refine pure_ (i := 7) (N := some 16) (v := ?_) (a' := ?_) #[true, true, true, true, false, true, true, true, false, false, false, false, false, false, false, false] rfl rfl (by kernel_rfl) (fun _ _ _ h => h) (Or.inl ⟨by rfl, ?_⟩) ?_ ?_
      rotate_left
      · intro w'
        go_simp
        with_reducible rfl
      rotate_left
      · simp only [Act.put, List.setIfInBounds_toArray, List.set_cons_zero, List.set_cons_succ]
        rfl
      refine take_ (i := 4) (N := some 13) (v := ?_) (a' := ?_) #[true, true, true, true, true, true, true, true, false, false, false, false, false, false, false, false] rfl rfl (by kernel_rfl) (fun _ _ _ h => h) (Or.inl ⟨by rfl, ?_⟩) hHeld ?_ ?_
      rotate_left
      · rintro w' ⟨s0, s1⟩
        go_simp
        with_reducible rfl
      rotate_left
      · simp only [Act.put, List.setIfInBounds_toArray, List.set_cons_zero, List.set_cons_succ]
        rfl
      refine take_ (i := 8) (N := some 17) (v := ?_) (a' := ?_) #[true, true, true, true, true, true, true, true, true, false, false, false, false, false, false, false] rfl rfl (by kernel_rfl) (fun _ _ _ h => h) (Or.inl ⟨by rfl, ?_⟩) hHeld ?_ ?_
      rotate_left
      · rintro w' ⟨s0, s1⟩
        go_simp
        with_reducible rfl
      rotate_left
      · simp only [Act.put, List.setIfInBounds_toArray, List.set_cons_zero, List.set_cons_succ]
        rfl
      refine one_ (i := 9) (N := some 18) #[true, true, true, true, true, true, true, true, true, true, false, false, false, false, false, false] rfl rfl (by kernel_rfl) (by decide) (fun K hK => ?_)
      refine goes_ Tryd.func22 (by kernel_rfl) rfl #[.pointer (some ⟨g, 0, none⟩), .int .i64 1] (by rfl) rfl rfl (by simp only [List.map_toArray, List.map_cons, List.map_nil]; rfl) ?_
      with_reducible refine (take_s 1 HT.out).mono ?_
      rintro en_ W1 ⟨rfl, h1, f1⟩
      refine ⟨_, rfl, ?_⟩
      have HT1 := Aside0.mk h1
      have HM1 := Aside0.mk (HM.out.keep f1 HG0.out)
      have HF1 := Aside0.mk (HF.out.trans (f1.mono HL.out))
      have HS1 := Aside0.mk (Nat.le_trans HL.out f1.size)
      clear h1 f1
      refine hK.out _ _ ⟨((blk_cell HM1.out.blk 3).trans rfl), HT1.out.par⟩ (fun hHeld => ?_)
      clear hK K
      refine norm_ (a' := ?_) ?_ ?_
      rotate_left
      · show Act.put _ (some 18) _ = _
        simp only [Act.put, List.setIfInBounds_toArray, List.set_cons_zero, List.set_cons_succ]
        rfl
      refine pure_ (i := 10) (N := some 19) (v := ?_) (a' := ?_) #[true, true, true, true, true, true, true, true, true, true, true, false, false, false, false, false] rfl rfl (by kernel_rfl) (fun _ _ _ h => h) (Or.inl ⟨by rfl, ?_⟩) ?_ ?_
      rotate_left
      · intro w'
        go_simp
        with_reducible rfl
      rotate_left
      · simp only [Act.put, List.setIfInBounds_toArray, List.set_cons_zero, List.set_cons_succ]
        rfl
      refine one_ (i := 11) (N := some 20) #[true, true, true, true, true, true, true, true, true, true, true, true, false, false, false, false] rfl rfl (by kernel_rfl) (by decide) (fun K hK => ?_)
      refine value_ (w1 := ?_) (v := ?_) (by rfl) rfl ?_ ?_
      rotate_left 2
      · go_simp
        constructor
        · rfl
        · rfl
      refine hK.out _ _ ⟨(pw_cell_below (below_alloc (Below.refl _ _) _) hHeld.1), (pw_cell_below (below_alloc (Below.refl _ _) _) hHeld.2)⟩ (fun hHeld => ?_)
      clear hK K
      refine norm_ (a' := ?_) ?_ ?_
      rotate_left
      · show Act.put _ (some 20) _ = _
        simp only [Act.put, List.setIfInBounds_toArray, List.set_cons_zero, List.set_cons_succ]
        rfl
      refine last_ (i := 12) (N := some 21) #[true, true, true, true, true, true, true, true, true, true, true, true, true, false, false, false] rfl rfl (by kernel_rfl) (by decide) (fun K hK => ?_)
      refine Kd.R_append_step (Kd.int .i64) (w0 := W1) B (by rfl) (.tmp 13) (.tmp 20) 38 2 (.int .i64 0) 8 rfl Tryd.underlying38 info2 rfl (by decide) (by decide) _ l1 (pTake 1 s1).1.f2 [.int .i64 (pTake 1 s1).1.f2] (fun _ => True) (fun _ => False) rfl rfl rfl (fun _ hk => hk.elim) (fun _ _ => trivial) HM1.out.rR (Below.refl _ _) HS1.out (by have := HLE.out; omega) ?_
      intro v1 w1 hR1 _ hg1 _
      obtain ⟨A5, c5, hv1⟩ := Kd.R_slice hR1
      have hv2 : v1 = .slice A5 (l1.length + 1) c5 := by rw [hv1, List.length_append]; rfl
      clear hv1
      subst hv2
      have HR1 := Aside0.mk hR1
      have HG1 := Aside0.mk hg1
      clear hR1 hg1
      have hf1 := blk_frozen (blk_grow HM1.out.rR HM1.out.blk (by decide) HG1.out) 3
      have hk1 := (blk_cell (blk_grow HM1.out.rR HM1.out.blk (by decide) HG1.out) 3).trans rfl
      refine hK.out _ _ ?_
      clear hK K
      refine norm_ (a' := ?_) ?_ ?_
      rotate_left
      · show Act.put _ (some 21) _ = _
        simp only [Act.put, List.setIfInBounds_toArray, List.set_cons_zero, List.set_cons_succ]
        rfl
      refine pure_ (i := 13) (N := some 22) (v := ?_) (a' := ?_) #[true, true, true, true, true, true, true, true, true, true, true, true, true, true, false, false] rfl rfl (by kernel_rfl) (fun _ _ _ h => h) (Or.inl ⟨by rfl, ?_⟩) ?_ ?_
      rotate_left
      · intro w'
        go_simp
        with_reducible rfl
      rotate_left
      · simp only [Act.put, List.setIfInBounds_toArray, List.set_cons_zero, List.set_cons_succ]
        rfl
      refine pure_ (i := 14) (N := some 23) (v := ?_) (a' := ?_) #[true, true, true, true, true, true, true, true, true, true, true, true, true, true, true, false] rfl rfl (by kernel_rfl) (fun _ _ _ h => h) (Or.inl ⟨by rfl, ?_⟩) ?_ ?_
      rotate_left
      · intro w'
        go_simp
        with_reducible rfl
      rotate_left
      · simp only [Act.put, List.setIfInBounds_toArray, List.set_cons_zero, List.set_cons_succ]
        rfl
      refine last_ (i := 15) (N := none) #[true, true, true, true, true, true, true, true, true, true, true, true, true, true, true, true] rfl rfl (by kernel_rfl) (by decide) (fun K hK => ?_)
      refine skip_ (w1 := ?_) (by rfl) rfl ?_ ?_
      rotate_left
      · go_simp
        rfl
      refine hK.out _ _ ?_
      clear hK K
      refine done_ (by kernel_rfl) ?_
      have n1_ := Aside0.mk ((HT1.out.other (grown_below HM1.out.rR HG1.out HS1.out)).far (q := ⟨h, 3, none⟩) HM.out.ge (.slice A5 (l1.length + 1) c5))
      have n2_ := Aside0.mk (HM1.out.appR HR1.out HG1.out)
      have n3_ := Aside0.mk ((HF1.out.trans (Fr.of_below (grown_below HM1.out.rR HG1.out HS1.out))).far (p := ⟨h, 3, none⟩) HM.out.ge (.slice A5 (l1.length + 1) c5))
      clear HT HM HF HT1 HM1 HF1 HR1 HG1 hc3 hc hf1 hk1
      have hc := n1_.out.par
      have hb3 := n1_.out.bad
      have HLX := Aside0.mk n1_.out.lens.2.1
      have HML : Aside0 ((l1 ++ [(pTake 1 s1).1.f2]).length = l1.length + 1) := ⟨by rw [List.length_append]; rfl⟩
      obtain ⟨s2, hs2⟩ : ∃ s2, (pTake 1 s1).2 = s2 := ⟨_, rfl⟩
      rw [hs2] at n1_ hb3 HR2 HLT
      clear hs2
      obtain ⟨l2, hl2⟩ : ∃ l2, l1 ++ [(pTake 1 s1).1.f2] = l2 := ⟨_, rfl⟩
      rw [hl2] at n2_ HR2 HML
      clear hl2
      cases hb : s2.b with
      | true =>
        rw [hb] at hb3
        have HE : Aside0 (R = (l2, s2)) := ⟨by have := HR2.out; rw [if_pos hb] at this; exact this.symm⟩
        clear HR2 hb
        go_wp2_with fail
        generalize w1.setCell ⟨h, 3, none⟩ (.slice A5 (l1.length + 1) c5) = V5 at *
        go_at_call 23
        refine (must_s (⟨#[59]⟩ : ByteArray) n1_.out).mono ?_
        rintro en_ V6 ⟨rfl, h1, f1⟩
        have m2_ := Aside0.mk (n2_.out.keep f1 HG0.out)
        have m3_ := Aside0.mk (n3_.out.trans (f1.mono HLX.out))
        have m1_ := Aside0.mk h1
        clear n1_ n2_ n3_ hc hb3 h1 f1
        go_wp2
        go_end0
        rw [HE.out]
        exact ⟨rfl, m1_.out, ⟨_, _, _, m2_.out⟩, m3_.out⟩
      | false =>
        rw [hb] at hb3
        have hR3 := HR2.out
        rw [if_neg (by rw [hb]; decide)] at hR3
        have HLT2 := Aside0.mk (HLT.out hb)
        have HSG := Aside0.mk (sign_s (⟨#[44]⟩ : ByteArray) n1_.out)
        have hbl : bl (⟨#[44]⟩ : ByteArray) = [44] := rfl
        rw [hbl] at HSG
        clear hbl HR2
        cases hsg : (pSign [44] s2).1 with
        | true =>
          rw [hsg, if_pos rfl] at hR3
          rw [hsg] at HSG
          have HE := Aside0.mk hR3
          have HSL : Aside0 ((pSign [44] s2).2.r.length ≤ s2.r.length) := ⟨sign_shorter _ _⟩
          clear hsg hR3 hb
          go_wp2_with fail
          generalize w1.setCell ⟨h, 3, none⟩ (.slice A5 (l1.length + 1) c5) = V5 at *
          go_at_call 24
          refine HSG.out.mono ?_
          rintro en_ V6 ⟨rfl, h1, f1⟩
          have m2_ := Aside0.mk (n2_.out.keep f1 HG0.out)
          have m3_ := Aside0.mk (n3_.out.trans (f1.mono HLX.out))
          have m1_ := Aside0.mk h1
          clear n1_ n2_ n3_ hc hb3 h1 f1 HSG
          go_wp2_with fail
          go_roundg k1
          case measure => omega
          case rel => exact ⟨l2, _, A5, c5, m1_, ⟨by rw [HML.out]; exact m2_.out⟩, m3_, HE, ⟨by have := HLT2.out; have := HSL.out; have := HN.out; omega, by rw [HML.out]; have := HN.out; omega⟩⟩
        | false =>
          have hs3 : (pSign [44] s2).2 = s2 := sign_no _ _ hsg
          rw [hsg, if_neg Bool.false_ne_true] at hR3
          rw [hsg, hs3] at HSG
          have HE := Aside0.mk hR3
          clear hsg hs3 hR3 hb
          go_wp2_with fail
          generalize w1.setCell ⟨h, 3, none⟩ (.slice A5 (l1.length + 1) c5) = V5 at *
          go_at_call 24
          refine HSG.out.mono ?_
          rintro en_ V6 ⟨rfl, h1, f1⟩
          have m2_ := Aside0.mk (n2_.out.keep f1 HG0.out)
          have m3_ := Aside0.mk (n3_.out.trans (f1.mono HLX.out))
          have m1_ := Aside0.mk h1
          clear n1_ n2_ n3_ hc hb3 h1 f1 HSG
          have hc := m1_.out.par
          go_wp2_with fail
          go_at_call 23
          refine (must_s (⟨#[59]⟩ : ByteArray) m1_.out).mono ?_
          rintro en_ V7 ⟨rfl, h1, f1⟩
          have n2_ := Aside0.mk (m2_.out.keep f1 HG0.out)
          have n3_ := Aside0.mk (m3_.out.trans (f1.mono m1_.out.lens.2.1))
          have n1_ := Aside0.mk h1
          clear m1_ m2_ m3_ hc h1 f1
          go_wp2
          go_end0
          rw [← HE.out]
          exact ⟨rfl, n1_.out, ⟨_, _, _, n2_.out⟩, n3_.out⟩
end Go.Proofs.YtddpjjhekhompaaDoor.P
namespace Go.Proofs.YtddpjjhekhompaaDoor.P
open Go.RowKit Go.Proofs.YtddpjjhekhompaaDoorW.PrintWords Go.Proofs.YtddpjjhekhompaaDoorW.PrintLast Go.Proofs.YtddpjjhekhompaaDoorW.PrintMore
set_option linter.unusedVariables false
set_option linter.unusedSimpArgs false
def itemF (s : PS) : Nat := if pIs 0 0 wRep s = true then 41 else if pIs 0 0 wOneof s = true then 42 else if pIs 0 0 wRes s = true then 43 else if isMap s = true then 44 else 45
theorem item_calls {B p g h : Nat} {W : World} {l : TL} {e : Int} {s : PS} {nm : ByteArray} {m : MAcc} {a : Int} {vF vO vR : Value} (H : TS B W p g l e s) (HM : MB B W h nm m a vF vO vR) (hl : fewM m) : Calls Tryd.prog (itemF s) #[.pointer (some ⟨p, 0, none⟩), .pointer (some ⟨h, 0, none⟩)] W (ItemP B W p g h l e nm (pItem m e s).1 a (pItem m e s).2) := by
  rw [pItem_eq]
  unfold itemF
  split
  · exact rep_s H HM hl
  · split
    · exact oneof_s H HM hl
    · split
      · exact res_s H HM hl
      · split
        · exact map_s H HM hl
        · exact plain_s H HM hl
theorem item_enter (s : PS) (args : Array Value) (w : World) : Sem.run Tryd.prog (callFunc (itemF s) args) w = .ok (.enter (itemF s) args) w := by
  unfold itemF
  split
  · exact run_enter Tryd.func41 (by kernel_rfl) (by kernel_rfl) args w
  · split
    · exact run_enter Tryd.func42 (by kernel_rfl) (by kernel_rfl) args w
    · split
      · exact run_enter Tryd.func43 (by kernel_rfl) (by kernel_rfl) args w
      · split
        · exact run_enter Tryd.func44 (by kernel_rfl) (by kernel_rfl) args w
        · exact run_enter Tryd.func45 (by kernel_rfl) (by kernel_rfl) args w
def ItemFP (W : World) (p f : Nat) (en : Ending) (W' : World) : Prop := en = .returned (.func (.func f) #[.pointer (some ⟨p, 0, none⟩)] #[]) ∧ Drawn0 W W'
theorem drawn_trans {a b c : World} (h : Drawn0 a b) (k : Drawn0 b c) : Drawn0 a c := by
  obtain ⟨n, rfl⟩ := h.out
  obtain ⟨m, rfl⟩ := k.out
  exact (Drawn0.refl a |>.step n).step m
theorem is0_b {B p g : Nat} {W : World} {l : TL} {e : Int} {s : PS} {k : Int} {x : ByteArray} {b : Bool} (h : TS B W p g l e s) (hb : pIs 0 k (bl x) s = b) : Calls Tryd.prog 8 #[.pointer (some ⟨g, 0, none⟩), .int .i64 0, .int .i64 k, .string x] W (IsPost W b) := hb ▸ is0_s k x h
theorem is1_b {B p g : Nat} {W : World} {l : TL} {e : Int} {s : PS} {k : Int} {x : ByteArray} {b : Bool} (h : TS B W p g l e s) (hb : pIs 1 k (bl x) s = b) : Calls Tryd.prog 8 #[.pointer (some ⟨g, 0, none⟩), .int .i64 1, .int .i64 k, .string x] W (IsPost W b) := hb ▸ is1_s k x h
set_option maxHeartbeats 2000000 in
set_option maxRecDepth 100000 in
theorem item_fn {B p g : Nat} {W : World} {l : TL} {e : Int} {s : PS} (H : TS B W p g l e s) : Calls Tryd.prog 25 #[.pointer (some ⟨p, 0, none⟩)] W (ItemFP W p (itemF s)) := by
  have HT := Aside0.mk H
  have hc := H.par
  clear H
  have HD := Aside0.mk (Drawn0.refl W)
  by_cases h1 : pIs 0 0 wRep s = true
  · have HE : Aside0 (itemF s = 41) := ⟨by unfold itemF; rw [if_pos h1]⟩
    have H1 := Aside0.mk (show pIs 0 0 (bl ⟨#[114, 101, 112, 101, 97, 116, 101, 100]⟩) s = true from h1)
    rw [HE.out]
    clear h1 HE
    go_enter Tryd.func25, Tryd.ntmps25
    go_wp2_with fail
    go_at_call 8
    refine (is0_b HT.out H1.out).mono ?_
    rintro en_ V ⟨rfl, hd⟩
    have n1_ := Aside0.mk (HT.out.drawn hd)
    have n2_ := Aside0.mk (drawn_trans HD.out hd)
    clear HT HD hc hd
    have HT := n1_
    have HD := n2_
    have hc := HT.out.par
    clear n1_ n2_
    go_wp2
    go_ret
    exact ⟨rfl, HD.out⟩
  · have H1 := Aside0.mk (show pIs 0 0 (bl ⟨#[114, 101, 112, 101, 97, 116, 101, 100]⟩) s = false from Bool.eq_false_iff.2 h1)
    by_cases h2 : pIs 0 0 wOneof s = true
    · have HE : Aside0 (itemF s = 42) := ⟨by unfold itemF; rw [if_neg h1, if_pos h2]⟩
      have H2 := Aside0.mk (show pIs 0 0 (bl ⟨#[111, 110, 101, 111, 102]⟩) s = true from h2)
      rw [HE.out]
      clear h1 h2 HE
      go_enter Tryd.func25, Tryd.ntmps25
      go_wp2_with fail
      go_at_call 8
      refine (is0_b HT.out H1.out).mono ?_
      rintro en_ V ⟨rfl, hd⟩
      have n1_ := Aside0.mk (HT.out.drawn hd)
      have n2_ := Aside0.mk (drawn_trans HD.out hd)
      clear HT HD hc hd
      have HT := n1_
      have HD := n2_
      have hc := HT.out.par
      clear n1_ n2_
      go_wp2_with fail
      go_at_call 8
      refine (is0_b HT.out H2.out).mono ?_
      rintro en_ V ⟨rfl, hd⟩
      have n1_ := Aside0.mk (HT.out.drawn hd)
      have n2_ := Aside0.mk (drawn_trans HD.out hd)
      clear HT HD hc hd
      have HT := n1_
      have HD := n2_
      have hc := HT.out.par
      clear n1_ n2_
      go_wp2
      go_ret
      exact ⟨rfl, HD.out⟩
    · have H2 := Aside0.mk (show pIs 0 0 (bl ⟨#[111, 110, 101, 111, 102]⟩) s = false from Bool.eq_false_iff.2 h2)
      by_cases h3 : pIs 0 0 wRes s = true
      · have HE : Aside0 (itemF s = 43) := ⟨by unfold itemF; rw [if_neg h1, if_neg h2, if_pos h3]⟩
        have H3 := Aside0.mk (show pIs 0 0 (bl ⟨#[114, 101, 115, 101, 114, 118, 101, 100]⟩) s = true from h3)
        rw [HE.out]
        clear h1 h2 h3 HE
        go_enter Tryd.func25, Tryd.ntmps25
        go_wp2_with fail
        go_at_call 8
        refine (is0_b HT.out H1.out).mono ?_
        rintro en_ V ⟨rfl, hd⟩
        have n1_ := Aside0.mk (HT.out.drawn hd)
        have n2_ := Aside0.mk (drawn_trans HD.out hd)
        clear HT HD hc hd
        have HT := n1_
        have HD := n2_
        have hc := HT.out.par
        clear n1_ n2_
        go_wp2_with fail
        go_at_call 8
        refine (is0_b HT.out H2.out).mono ?_
        rintro en_ V ⟨rfl, hd⟩
        have n1_ := Aside0.mk (HT.out.drawn hd)
        have n2_ := Aside0.mk (drawn_trans HD.out hd)
        clear HT HD hc hd
        have HT := n1_
        have HD := n2_
        have hc := HT.out.par
        clear n1_ n2_
        go_wp2_with fail
        go_at_call 8
        refine (is0_b HT.out H3.out).mono ?_
        rintro en_ V ⟨rfl, hd⟩
        have n1_ := Aside0.mk (HT.out.drawn hd)
        have n2_ := Aside0.mk (drawn_trans HD.out hd)
        clear HT HD hc hd
        have HT := n1_
        have HD := n2_
        have hc := HT.out.par
        clear n1_ n2_
        go_wp2
        go_ret
        exact ⟨rfl, HD.out⟩
      · have H3 := Aside0.mk (show pIs 0 0 (bl ⟨#[114, 101, 115, 101, 114, 118, 101, 100]⟩) s = false from Bool.eq_false_iff.2 h3)
        by_cases h4 : pIs 0 0 wMap s = true
        · have H4 := Aside0.mk (show pIs 0 0 (bl ⟨#[109, 97, 112]⟩) s = true from h4)
          by_cases h5 : pIs 1 3 [60] s = true
          · have HE : Aside0 (itemF s = 44) := ⟨by unfold itemF isMap; rw [if_neg h1, if_neg h2, if_neg h3, h4, h5]; rfl⟩
            have H5 := Aside0.mk (show pIs 1 3 (bl ⟨#[60]⟩) s = true from h5)
            rw [HE.out]
            clear h1 h2 h3 h4 h5 HE
            go_enter Tryd.func25, Tryd.ntmps25
            go_wp2_with fail
            go_at_call 8
            refine (is0_b HT.out H1.out).mono ?_
            rintro en_ V ⟨rfl, hd⟩
            have n1_ := Aside0.mk (HT.out.drawn hd)
            have n2_ := Aside0.mk (drawn_trans HD.out hd)
            clear HT HD hc hd
            have HT := n1_
            have HD := n2_
            have hc := HT.out.par
            clear n1_ n2_
            go_wp2_with fail
            go_at_call 8
            refine (is0_b HT.out H2.out).mono ?_
            rintro en_ V ⟨rfl, hd⟩
            have n1_ := Aside0.mk (HT.out.drawn hd)
            have n2_ := Aside0.mk (drawn_trans HD.out hd)
            clear HT HD hc hd
            have HT := n1_
            have HD := n2_
            have hc := HT.out.par
            clear n1_ n2_
            go_wp2_with fail
            go_at_call 8
            refine (is0_b HT.out H3.out).mono ?_
            rintro en_ V ⟨rfl, hd⟩
            have n1_ := Aside0.mk (HT.out.drawn hd)
            have n2_ := Aside0.mk (drawn_trans HD.out hd)
            clear HT HD hc hd
            have HT := n1_
            have HD := n2_
            have hc := HT.out.par
            clear n1_ n2_
            go_wp2_with fail
            go_at_call 8
            refine (is0_b HT.out H4.out).mono ?_
            rintro en_ V ⟨rfl, hd⟩
            have n1_ := Aside0.mk (HT.out.drawn hd)
            have n2_ := Aside0.mk (drawn_trans HD.out hd)
            clear HT HD hc hd
            have HT := n1_
            have HD := n2_
            have hc := HT.out.par
            clear n1_ n2_
            go_wp2_with fail
            go_at_call 8
            refine (is1_b HT.out H5.out).mono ?_
            rintro en_ V ⟨rfl, hd⟩
            have n1_ := Aside0.mk (HT.out.drawn hd)
            have n2_ := Aside0.mk (drawn_trans HD.out hd)
            clear HT HD hc hd
            have HT := n1_
            have HD := n2_
            have hc := HT.out.par
            clear n1_ n2_
            go_wp2
            go_ret
            exact ⟨rfl, HD.out⟩
          · have HE : Aside0 (itemF s = 45) := ⟨by unfold itemF isMap; rw [if_neg h1, if_neg h2, if_neg h3, h4, show pIs 1 3 [60] s = false from by simpa using h5]; rfl⟩
            have H5 := Aside0.mk (show pIs 1 3 (bl ⟨#[60]⟩) s = false from Bool.eq_false_iff.2 h5)
            rw [HE.out]
            clear h1 h2 h3 h4 h5 HE
            go_enter Tryd.func25, Tryd.ntmps25
            go_wp2_with fail
            go_at_call 8
            refine (is0_b HT.out H1.out).mono ?_
            rintro en_ V ⟨rfl, hd⟩
            have n1_ := Aside0.mk (HT.out.drawn hd)
            have n2_ := Aside0.mk (drawn_trans HD.out hd)
            clear HT HD hc hd
            have HT := n1_
            have HD := n2_
            have hc := HT.out.par
            clear n1_ n2_
            go_wp2_with fail
            go_at_call 8
            refine (is0_b HT.out H2.out).mono ?_
            rintro en_ V ⟨rfl, hd⟩
            have n1_ := Aside0.mk (HT.out.drawn hd)
            have n2_ := Aside0.mk (drawn_trans HD.out hd)
            clear HT HD hc hd
            have HT := n1_
            have HD := n2_
            have hc := HT.out.par
            clear n1_ n2_
            go_wp2_with fail
            go_at_call 8
            refine (is0_b HT.out H3.out).mono ?_
            rintro en_ V ⟨rfl, hd⟩
            have n1_ := Aside0.mk (HT.out.drawn hd)
            have n2_ := Aside0.mk (drawn_trans HD.out hd)
            clear HT HD hc hd
            have HT := n1_
            have HD := n2_
            have hc := HT.out.par
            clear n1_ n2_
            go_wp2_with fail
            go_at_call 8
            refine (is0_b HT.out H4.out).mono ?_
            rintro en_ V ⟨rfl, hd⟩
            have n1_ := Aside0.mk (HT.out.drawn hd)
            have n2_ := Aside0.mk (drawn_trans HD.out hd)
            clear HT HD hc hd
            have HT := n1_
            have HD := n2_
            have hc := HT.out.par
            clear n1_ n2_
            go_wp2_with fail
            go_at_call 8
            refine (is1_b HT.out H5.out).mono ?_
            rintro en_ V ⟨rfl, hd⟩
            have n1_ := Aside0.mk (HT.out.drawn hd)
            have n2_ := Aside0.mk (drawn_trans HD.out hd)
            clear HT HD hc hd
            have HT := n1_
            have HD := n2_
            have hc := HT.out.par
            clear n1_ n2_
            go_wp2
            go_ret
            exact ⟨rfl, HD.out⟩
        · have H4 := Aside0.mk (show pIs 0 0 (bl ⟨#[109, 97, 112]⟩) s = false from Bool.eq_false_iff.2 h4)
          have HE : Aside0 (itemF s = 45) := ⟨by unfold itemF isMap; rw [if_neg h1, if_neg h2, if_neg h3, show pIs 0 0 wMap s = false from by simpa using h4]; rfl⟩
          rw [HE.out]
          clear h1 h2 h3 h4 HE
          go_enter Tryd.func25, Tryd.ntmps25
          go_wp2_with fail
          go_at_call 8
          refine (is0_b HT.out H1.out).mono ?_
          rintro en_ V ⟨rfl, hd⟩
          have n1_ := Aside0.mk (HT.out.drawn hd)
          have n2_ := Aside0.mk (drawn_trans HD.out hd)
          clear HT HD hc hd
          have HT := n1_
          have HD := n2_
          have hc := HT.out.par
          clear n1_ n2_
          go_wp2_with fail
          go_at_call 8
          refine (is0_b HT.out H2.out).mono ?_
          rintro en_ V ⟨rfl, hd⟩
          have n1_ := Aside0.mk (HT.out.drawn hd)
          have n2_ := Aside0.mk (drawn_trans HD.out hd)
          clear HT HD hc hd
          have HT := n1_
          have HD := n2_
          have hc := HT.out.par
          clear n1_ n2_
          go_wp2_with fail
          go_at_call 8
          refine (is0_b HT.out H3.out).mono ?_
          rintro en_ V ⟨rfl, hd⟩
          have n1_ := Aside0.mk (HT.out.drawn hd)
          have n2_ := Aside0.mk (drawn_trans HD.out hd)
          clear HT HD hc hd
          have HT := n1_
          have HD := n2_
          have hc := HT.out.par
          clear n1_ n2_
          go_wp2_with fail
          go_at_call 8
          refine (is0_b HT.out H4.out).mono ?_
          rintro en_ V ⟨rfl, hd⟩
          have n1_ := Aside0.mk (HT.out.drawn hd)
          have n2_ := Aside0.mk (drawn_trans HD.out hd)
          clear HT HD hc hd
          have HT := n1_
          have HD := n2_
          have hc := HT.out.par
          clear n1_ n2_
          go_wp2
          go_ret
          exact ⟨rfl, HD.out⟩
end Go.Proofs.YtddpjjhekhompaaDoor.P
namespace Go.Proofs.YtddpjjhekhompaaDoor.P
open Go.RowKit Go.Proofs.YtddpjjhekhompaaDoorW.PrintWords Go.Proofs.YtddpjjhekhompaaDoorW.PrintLast Go.Proofs.YtddpjjhekhompaaDoorW.PrintMore
set_option linter.unusedVariables false
set_option linter.unusedSimpArgs false
def szM (m : MAcc) : Nat := m.1.length + m.2.1.length + m.2.2.length
theorem mu_tail (s : PS) : mu ⟨s.r.tail, s.b⟩ ≤ mu s := by
  unfold mu
  simp only [List.length_tail]
  split <;> omega
theorem mu_bad (r : List TokS) : mu ⟨r, true⟩ = 0 := rfl
theorem mu_sign (x : List UInt8) (s : PS) : mu (pSign x s).2 ≤ mu s := by
  unfold pSign
  split
  · exact mu_tail s
  · exact Nat.le_refl _
theorem mu_must (x : List UInt8) (s : PS) : mu (pMust x s) ≤ mu s := by
  unfold pMust
  split
  · exact mu_tail s
  · rw [mu_bad]; exact Nat.zero_le _
theorem mu_take (k : Int) (s : PS) : mu (pTake k s).2 ≤ mu s := by
  cases hb : s.b with
  | true => rw [pTake_bad _ _ hb]; exact Nat.le_refl _
  | false => exact Nat.le_of_lt ((take_good k).mu_lt 0 s hb)
theorem mu_take_lt (k : Int) (s : PS) (hb : s.b = false) : mu (pTake k s).2 < mu s := (take_good k).mu_lt 0 s hb
theorem one_pot (k : Int) (x : List UInt8) : ∀ n a e s, (pLoop x (pOne k) n a e s).1.length + mu (pLoop x (pOne k) n a e s).2 ≤ a.length + mu s := by
  intro n
  induction n with
  | zero => intro a e s; exact Nat.le_refl _
  | succ n ih =>
    intro a e s
    rw [pLoop]
    by_cases hb : s.b = true
    · rw [if_pos hb]; exact Nat.le_refl _
    · rw [if_neg hb]
      by_cases hs : (pSign x s).1 = true
      · rw [if_pos hs]; have := mu_sign x s; simp only; omega
      · rw [if_neg hs]
        have h1 := ih (pOne k a e s).1 e (pOne k a e s).2
        have h2 := (one_good k a).mu_lt e s (by simpa using hb)
        have h3 : (pOne k a e s).1.length = a.length + 1 := by unfold pOne; simp
        omega
theorem nums_pot : ∀ n a s, (pNums n a s).1.length + mu (pNums n a s).2 ≤ a.length + mu s + 1 ∧ (s.b = false → (pNums n a s).1.length + mu (pNums n a s).2 ≤ a.length + mu s) := by
  intro n
  induction n with
  | zero => intro a s; exact ⟨Nat.le_succ _, fun _ => Nat.le_refl _⟩
  | succ n ih =>
    intro a s
    rw [pNums]
    by_cases hb : (pTake 1 s).2.b = true
    · rw [if_pos hb]
      have h1 : mu (pTake 1 s).2 = 0 := by unfold mu; rw [if_pos hb]
      simp only [List.length_append, List.length_cons, List.length_nil]
      refine ⟨by omega, fun h => ?_⟩
      have : 0 < mu s := by unfold mu; rw [h]; exact Nat.succ_pos _
      omega
    · rw [if_neg hb]
      have hsb : s.b = false := by
        cases h : s.b with
        | false => rfl
        | true => rw [pTake_bad _ _ h] at hb; exact absurd h hb
      have h1 := mu_take_lt 1 s hsb
      by_cases hs : (pSign [44] (pTake 1 s).2).1 = true
      · rw [if_pos hs]
        have h2 : (pSign [44] (pTake 1 s).2).2.b = false := by
          unfold pSign
          split
          · simpa using hb
          · simpa using hb
        have h3 := (ih (a ++ [(pTake 1 s).1.f2]) (pSign [44] (pTake 1 s).2).2).2 h2
        have h4 := mu_sign [44] (pTake 1 s).2
        simp only [List.length_append, List.length_cons, List.length_nil] at h3
        exact ⟨by omega, fun _ => by omega⟩
      · rw [if_neg hs]
        simp only [List.length_append, List.length_cons, List.length_nil]
        exact ⟨by omega, fun _ => by omega⟩
theorem item_pot (m : MAcc) (e : Int) (s : PS) (hb : s.b = false) : szM (pItem m e s).1 + mu (pItem m e s).2 ≤ szM m + mu s := by
  have hf : ∀ m' : MAcc, ∀ s', mu s' < mu s → szM m' = szM m + 1 → szM m' + mu s' ≤ szM m + mu s := fun m' s' h1 h2 => by omega
  unfold pItem
  split
  · refine hf _ _ ((rep_good m).mu_lt e s hb) ?_
    unfold pRep szM; simp; omega
  · split
    · have h1 := mu_take_lt 0 s hb
      have h2 := mu_take 0 (pTake 0 s).2
      have h3 := mu_must [123] (pTake 0 (pTake 0 s).2).2
      have h4 := one_pot ((m.2.1.length : Int) + 1) [125] (mu (pMust [123] (pTake 0 (pTake 0 s).2).2)) m.1 e (pMust [123] (pTake 0 (pTake 0 s).2).2)
      show szM ((pLoopW [125] (pOne ((m.2.1.length : Int) + 1)) m.1 e (pMust [123] (pTake 0 (pTake 0 s).2).2)).1, m.2.1 ++ [(pTake 0 (pTake 0 s).2).1.f1], m.2.2) + mu (pLoopW [125] (pOne ((m.2.1.length : Int) + 1)) m.1 e (pMust [123] (pTake 0 (pTake 0 s).2).2)).2 ≤ _
      unfold pLoopW szM
      simp only [List.length_append, List.length_cons, List.length_nil]
      omega
    · split
      · have h1 := mu_take_lt 0 s hb
        have h2 := (nums_pot ((pTake 0 s).2.r.length + 1) m.2.2 (pTake 0 s).2).1
        have h3 := mu_must [59] (pNums ((pTake 0 s).2.r.length + 1) m.2.2 (pTake 0 s).2).2
        show szM (m.1, m.2.1, (pNums ((pTake 0 s).2.r.length + 1) m.2.2 (pTake 0 s).2).1) + mu (pMust [59] (pNums ((pTake 0 s).2.r.length + 1) m.2.2 (pTake 0 s).2).2) ≤ _
        unfold szM
        simp only
        omega
      · split
        · refine hf _ _ ((map_good m).mu_lt e s hb) ?_
          unfold pMap szM; simp; omega
        · refine hf _ _ ((plain_good m).mu_lt e s hb) ?_
          unfold pPlain szM; simp; omega
end Go.Proofs.YtddpjjhekhompaaDoor.P
namespace Go.Proofs.YtddpjjhekhompaaDoor.P
open Go.RowKit Go.Proofs.YtddpjjhekhompaaDoorW.PrintWords Go.Proofs.YtddpjjhekhompaaDoorW.PrintLast Go.Proofs.YtddpjjhekhompaaDoorW.PrintMore
set_option linter.unusedVariables false
set_option linter.unusedSimpArgs false
structure PB (B : Nat) (W : World) (p g : Nat) (f : FileS) (vM vE : Value) : Prop where
  blk : W.heap[p]? = some (.cells #[.pointer (some ⟨g, 0, none⟩), vM, vE] 49 (0, 0))
  rM : k40.R 40 W B (fun _ => True) vM f.1
  rE : k71.R 71 W B (fun _ => True) vE f.2
theorem PB.keep {B g p : Nat} {W W' : World} {f : FileS} {vM vE : Value} (H : PB B W p g f vM vE) (hF : Fr W.heap.size g W W') (hg : g < B) (hp : p ≠ g) : PB B W' p g f vM vE :=
  ⟨(hF.block p (blk_lt H.blk) hp).trans H.blk, R_fr H.rM hF hg, R_fr H.rE hF hg⟩
theorem PB.below {B g p : Nat} {W W' : World} {f : FileS} {vM vE : Value} (H : PB B W p g f vM vE) (hb : Below W.heap.size W W') : PB B W' p g f vM vE :=
  ⟨blk_below H.blk hb, Kd.R_below H.rM hb, Kd.R_below H.rE hb⟩
theorem PB.appM {B g p : Nat} {W W' : World} {f : FileS} {vM vE v : Value} {l : List MsgS} (H : PB B W p g f vM vE) (hR : k40.R 40 W' B (fun _ => True) v l) (hg : W.grownBy W' vM.ownBlock) : PB B (W'.setCell ⟨p, 1, none⟩ v) p g (l, f.2) v vE := by
  have hb := blk_grow H.rM H.blk (by decide) hg
  exact ⟨blk_put hb 1 _ rfl, Kd.R_set hR hb (by decide) 1 v, Kd.R_set (R_grow H.rE H.rM (by decide) hg) hb (by decide) 1 v⟩
theorem PB.appE {B g p : Nat} {W W' : World} {f : FileS} {vM vE v : Value} {l : List EnumS} (H : PB B W p g f vM vE) (hR : k71.R 71 W' B (fun _ => True) v l) (hg : W.grownBy W' vE.ownBlock) : PB B (W'.setCell ⟨p, 2, none⟩ v) p g (f.1, l) vM v := by
  have hb := blk_grow H.rE H.blk (by decide) hg
  exact ⟨blk_put hb 2 _ rfl, Kd.R_set (R_grow H.rM H.rE (by decide) hg) hb (by decide) 2 v, Kd.R_set hR hb (by decide) 2 v⟩
def TopP (B : Nat) (W : World) (p g : Nat) (l : TL) (e : Int) (f : FileS) (s : PS) (en : Ending) (W' : World) : Prop :=
  en = .returned (.tuple #[]) ∧ TS B W' p g l e s ∧ (∃ vM vE, PB B W' p g f vM vE) ∧ (∀ B0, B0 ≤ B → B0 ≤ p → B0 ≤ g → Below B0 W W')
theorem MB.name {D h : Nat} {W : World} {nm : ByteArray} {m : MAcc} {a : Int} {vF vO vR : Value} (H : MB D W h nm m a vF vO vR) (n2 : ByteArray) : MB D (W.setCell ⟨h, 0, none⟩ (.string n2)) h n2 m a vF vO vR :=
  ⟨blk_put H.blk 0 _ rfl, Kd.R_set H.rF H.blk (by decide) 0 _, Kd.R_set H.rO H.blk (by decide) 0 _, Kd.R_set H.rR H.blk (by decide) 0 _, H.ge⟩
theorem MB.new (W : World) (a : Int) (D : Nat) (hD : D ≤ W.heap.size) : MB D (W.alloc (.cells #[.string (⟨#[]⟩ : ByteArray), .slice none 0 0, .slice none 0 0, .slice none 0 0, .int .i64 a] 40 (0, 0))) W.heap.size ⟨#[]⟩ ([], [], []) a (.slice none 0 0) (.slice none 0 0) (.slice none 0 0) :=
  ⟨blk_new _ _, Kd.R_nil _ _ _ _ _, Kd.R_nil _ _ _ _ _, Kd.R_nil _ _ _ _ _, hD⟩
set_option maxHeartbeats 2000000 in
set_option maxRecDepth 100000 in
theorem message_s {B p g : Nat} {W : World} {l : TL} {e : Int} {s : PS} {f : FileS} {vM vE : Value} (H : TS B W p g l e s) (HPB : PB B W p g f vM vE) (hl : f.1.length ≤ 1000000) : Calls Tryd.prog 9 #[.pointer (some ⟨p, 0, none⟩)] W (TopP B W p g l e (f.1 ++ [(pMsg e s).1], f.2) (pMsg e s).2) := by
  have HT0 := Aside0.mk H
  have HL0 := Aside0.mk H.lens
  have HG0 : Aside0 (g < W.heap.size) := ⟨by have := H.lens; omega⟩
  have HT := Aside0.mk (H.lift H.lens.2.1 (Nat.le_refl _))
  have HLEN := Aside0.mk hl
  obtain ⟨AM, cM, rfl⟩ := Kd.R_slice HPB.rM
  have HP0 := Aside0.mk HPB
  have hc := H.par
  have q1 := tok_f1
  obtain ⟨r, hr⟩ : ∃ r, pLoopW [125] pItem ([], [], []) e (pMust [123] (pTake 0 (pTake 0 s).2).2) = r := ⟨_, rfl⟩
  have HR := Aside0.mk hr
  obtain ⟨NM, hnm⟩ : ∃ NM, (pTake 0 (pTake 0 s).2).1.f1 = NM := ⟨_, rfl⟩
  have HE : Aside0 (pMsg e s = (⟨NM, r.1.1, r.1.2.1, r.1.2.2, pAt e s⟩, r.2)) := ⟨by unfold pMsg; rw [hr, hnm]⟩
  have HNM := Aside0.mk hnm
  rw [HE.out]
  clear H HPB hl hr hnm
  go_enter Tryd.func9, Tryd.ntmps9
  go_wp2_with fail
  go_at_call 11
  refine (at_s HT.out).mono ?_
  rintro en_ W1 ⟨rfl, hd⟩
  have n1_ := Aside0.mk (HT.out.drawn hd)
  have HF := Aside0.mk (drawn_fr hd W.heap.size g)
  clear HT hc hd
  have HT := n1_
  have hc := HT.out.par
  clear n1_
  have hcA : ∀ o, (W1.alloc o).cell? ⟨p, 0, none⟩ = some (.pointer (some ⟨g, 0, none⟩)) := fun o => pw_cell_below (below_alloc (Below.refl _ W1) o) hc
  go_wp2_with fail
  clear hcA
  have n1_ := Aside0.mk (HT.out.alloc (.cells #[.string (⟨#[]⟩ : ByteArray), .slice none 0 0, .slice none 0 0, .slice none 0 0, .int .i64 (pAt e s)] 40 (0, 0)))
  have n2_ := Aside0.mk (HF.out.alloc HF.out.size (.cells #[.string (⟨#[]⟩ : ByteArray), .slice none 0 0, .slice none 0 0, .slice none 0 0, .int .i64 (pAt e s)] 40 (0, 0)))
  have n3_ := Aside0.mk (MB.new W1 (pAt e s) W.heap.size HF.out.size)
  have HHW := Aside0.mk HF.out.size
  clear HT HF hc
  generalize W1.alloc (.cells #[.string (⟨#[]⟩ : ByteArray), .slice none 0 0, .slice none 0 0, .slice none 0 0, .int .i64 (pAt e s)] 40 (0, 0)) = V0 at *
  obtain ⟨h, hh⟩ : ∃ h, W1.heap.size = h := ⟨_, rfl⟩
  rw [hh] at n3_ HHW ⊢
  clear hh
  have HT := n1_
  have HF := n2_
  have HM := n3_
  have hc := HT.out.par
  clear n1_ n2_ n3_
  go_at_call 22
  refine (take_s 0 HT.out).mono ?_
  rintro en_ V1 ⟨rfl, h1, f1⟩
  have n4_ := Aside0.mk (HM.out.keep f1 HG0.out)
  clear HM
  have HM := n4_
  clear n4_
  have n1_ := Aside0.mk h1
  have n2_ := Aside0.mk (HF.out.trans (f1.mono HF.out.size))
  clear hc HT HF
  have hc := h1.par
  have HT := n1_
  have HF := n2_
  clear h1 f1 n1_ n2_
  go_wp2_with fail
  go_at_call 22
  refine (take_s 0 HT.out).mono ?_
  rintro en_ V2 ⟨rfl, h1, f1⟩
  have n4_ := Aside0.mk (HM.out.keep f1 HG0.out)
  clear HM
  have HM := n4_
  clear n4_
  have n1_ := Aside0.mk h1
  have n2_ := Aside0.mk (HF.out.trans (f1.mono HF.out.size))
  clear hc HT HF
  have hc := h1.par
  have HT := n1_
  have HF := n2_
  clear h1 f1 n1_ n2_
  have hph : p ≠ h := by have := HL0.out; have := HHW.out; omega
  have hhp := Ne.symm hph
  have z0 : _ = some (Value.string _) := (blk_cell HM.out.blk 0).trans rfl
  have w0 := blk_frozen HM.out.blk 0
  go_wp2_with fail
  clear z0 w0 hph hhp hc
  rw [HNM.out] at ⊢
  have n1_ := Aside0.mk (HT.out.far (q := ⟨h, 0, none⟩) HM.out.ge (.string NM))
  have n2_ := Aside0.mk (HF.out.far (p := ⟨h, 0, none⟩) HM.out.ge (.string NM))
  have n3_ := Aside0.mk (HM.out.name NM)
  clear HT HF HM
  generalize V2.setCell ⟨h, 0, none⟩ (.string NM) = V3 at *
  have HT := n1_
  have HF := n2_
  have HM := n3_
  have hc := HT.out.par
  clear n1_ n2_ n3_
  go_at_call 23
  refine (must_s (⟨#[123]⟩ : ByteArray) HT.out).mono ?_
  rintro en_ V4 ⟨rfl, h1, f1⟩
  have n4_ := Aside0.mk (HM.out.keep f1 HG0.out)
  clear HM
  have HM := n4_
  clear n4_
  have n1_ := Aside0.mk h1
  have n2_ := Aside0.mk (HF.out.trans (f1.mono HF.out.size))
  clear hc HT HF
  have hc := h1.par
  have HT := n1_
  have HF := n2_
  clear h1 f1 n1_ n2_
  have hbl : bl (⟨#[123]⟩ : ByteArray) = [123] := rfl
  rw [hbl] at HT
  clear hbl hc
  obtain ⟨S0, hS0⟩ : ∃ S0, pMust [123] (pTake 0 (pTake 0 s).2).2 = S0 := ⟨_, rfl⟩
  rw [hS0] at HT HR
  clear hS0
  go_upto_block 0 with (fail)
  go_cut [2] (fun v2 V => v2 = .pointer (some ⟨h, 0, none⟩) ∧ ∃ vF vO vR : Value, Aside0 (TS W.heap.size V p g l e r.2) ∧ Aside0 (MB W.heap.size V h NM r.1 (pAt e s) vF vO vR) ∧ Aside0 (Fr W.heap.size g W V))
  case first =>
    go_wp2
    go_loopg [27] (mu S0) (fun n _ V => ∃ (m1 : MAcc) (s1 : PS) (vF vO vR : Value), Aside0 (TS W.heap.size V p g l e s1) ∧ Aside0 (MB W.heap.size V h NM m1 (pAt e s) vF vO vR) ∧ Aside0 (Fr W.heap.size g W V) ∧ Aside0 (pLoop [125] pItem n m1 e s1 = r) ∧ Aside0 (mu s1 ≤ n ∧ szM m1 + mu s1 ≤ 1001))
    case atStart =>
      refine ⟨([], [], []), S0, _, _, _, HT, HM, HF, HR, ⟨Nat.le_refl _, ?_⟩⟩
      have h2 : mu S0 ≤ 1001 := by
        unfold mu
        split
        · omega
        · have := HT.out.lens.1; omega
      exact Nat.le_trans (Nat.le_of_eq (Nat.zero_add _)) h2
    case round =>
      clear HT HM HF HR
      obtain ⟨m1, s1, vF, vO, vR, HT, HM, HF, HR, HN⟩ := hrel
      have hc := HT.out.par
      have hb3 := HT.out.bad
      cases hb : s1.b with
      | true =>
        rw [hb] at hb3
        have HE2 : Aside0 (r = (m1, s1)) := ⟨by rw [← HR.out]; exact pLoop_stay _ _ _ _ _ _ hb⟩
        clear hb HR
        go_wp2
        go_meet
        exact ⟨rfl, vF, vO, vR, by rw [HE2.out]; exact HT, by rw [HE2.out]; exact HM, HF⟩
      | false =>
        rw [hb] at hb3
        cases gk with
        | zero =>
          have := mu_zero s1 (by have := HN.out; omega)
          rw [hb] at this
          cases this
        | succ k1 =>
          have HSG := Aside0.mk (sign_s (⟨#[125]⟩ : ByteArray) HT.out)
          have hbl : bl (⟨#[125]⟩ : ByteArray) = [125] := rfl
          rw [hbl] at HSG
          clear hbl
          have hR2 := HR.out
          rw [pLoop, if_neg (by rw [hb]; decide)] at hR2
          cases hsg : (pSign [125] s1).1 with
          | true =>
            rw [hsg, if_pos rfl] at hR2
            rw [hsg] at HSG
            have HE2 := Aside0.mk hR2
            clear hsg hR2 HR hb
            go_wp2_with fail
            go_at_call 24
            refine HSG.out.mono ?_
            rintro en_ W4 ⟨rfl, h1, f1⟩
            have n1_ := Aside0.mk h1
            have n2_ := Aside0.mk (HM.out.keep f1 HG0.out)
            have n3_ := Aside0.mk (HF.out.trans (f1.mono HF.out.size))
            clear HT HM HF hc hb3 h1 f1 HSG
            have HT := n1_
            have HM := n2_
            have HF := n3_
            clear n1_ n2_ n3_
            go_wp2
            go_meet
            exact ⟨rfl, vF, vO, vR, by rw [← HE2.out]; exact HT, by rw [← HE2.out]; exact HM, HF⟩
          | false =>
            have hs2 : (pSign [125] s1).2 = s1 := sign_no _ _ hsg
            rw [hsg, if_neg Bool.false_ne_true] at hR2
            rw [hsg, hs2] at HSG
            have HMU := Aside0.mk ((item_good m1).mu_lt e s1 hb)
            have HPOT := Aside0.mk (item_pot m1 e s1 hb)
            have HE2 := Aside0.mk hR2
            have HFW : Aside0 (fewM m1) := ⟨by have := HN.out; unfold szM at this; exact ⟨by omega, by omega, by omega⟩⟩
            clear hsg hs2 hR2 HR hb
            go_wp2_with fail
            go_at_call 24
            refine HSG.out.mono ?_
            rintro en_ W4 ⟨rfl, h1, f1⟩
            have n1_ := Aside0.mk h1
            have n2_ := Aside0.mk (HM.out.keep f1 HG0.out)
            have n3_ := Aside0.mk (HF.out.trans (f1.mono HF.out.size))
            clear HT HM HF hc hb3 h1 f1 HSG
            go_wp2_with fail
            go_at_call 25
            refine (item_fn n1_.out).mono ?_
            rintro en_ W5 ⟨rfl, hd⟩
            have HT := Aside0.mk (n1_.out.drawn hd)
            have HM := Aside0.mk (n2_.out.drawn hd)
            have HF := Aside0.mk (n3_.out.trans (drawn_fr hd W.heap.size g))
            clear n1_ n2_ n3_ hd
            have HI := Aside0.mk (item_calls HT.out HM.out HFW.out)
            have hcf := item_enter s1
            generalize itemF s1 = fi at *
            clear HT HM
            go_wp2_with fail
            refine HI.out.mono ?_
            rintro en_ W6 ⟨rfl, h1, ⟨vF', vO', vR', h2⟩, f1⟩
            have n1_ := Aside0.mk h1
            have n2_ := Aside0.mk h2
            have n3_ := Aside0.mk (HF.out.trans f1)
            clear h1 h2 f1 HF HI hcf
            go_wp2_with fail
            go_roundg k1
            case measure => omega
            case rel => exact ⟨_, _, vF', vO', vR', n1_, n2_, n3_, HE2, ⟨by have := HMU.out; have := HN.out; omega, by have := HPOT.out; have := HN.out; omega⟩⟩
  case rest =>
    obtain ⟨rfl, vF, vO, vR, HT, HM, HF⟩ := hcut
    go_wp2_with fail
    obtain ⟨AF, cF, rfl⟩ := Kd.R_slice HM.out.rF
    obtain ⟨AO, cO, rfl⟩ := Kd.R_slice HM.out.rO
    obtain ⟨AR, cR, rfl⟩ := Kd.R_slice HM.out.rR
    have n1_ := Aside0.mk (HP0.out.keep HF.out (show g < B from by have := HL0.out; omega) (by have := HL0.out; omega))
    have y0 := (blk_cell HM.out.blk 0).trans rfl
    have y1 := (blk_cell HM.out.blk 1).trans rfl
    have y2 := (blk_cell HM.out.blk 2).trans rfl
    have y3 := (blk_cell HM.out.blk 3).trans rfl
    have y4 := (blk_cell HM.out.blk 4).trans rfl
    have hp1 := (blk_cell n1_.out.blk 1).trans rfl
    have HP := Aside0.mk (n1_.out.below (Below.refl _ wc).drew)
    have HTZ := Aside0.mk (HT0.out.back HT.out HF.out.size)
    have HS1 : Aside0 (B ≤ wc.drew.heap.size) := ⟨Nat.le_trans HL0.out.2.1 HF.out.size⟩
    have HFD := Aside0.mk HF.out.drew
    have HTD := Aside0.mk HTZ.out.drew
    have HBW : Aside0 (B ≤ W.heap.size) := ⟨HL0.out.2.1⟩
    have HMM : Aside0 (k40.M wc.drew B (fun k => W.heap.size ≤ k) (⟨NM, r.1.1, r.1.2.1, r.1.2.2, pAt e s⟩ : MsgS) [.string NM, .slice AF r.1.1.length cF, .slice AO r.1.2.1.length cO, .slice AR r.1.2.2.length cR, .int .i64 (pAt e s)]) := ⟨k40_mkM _ _ _ _ (Kd.R_lower (Kd.R_mono (Kd.R_bound (Kd.R_drew HM.out.rF)) (fun k hk => hk.2.1)) HBW.out) (Kd.R_lower (Kd.R_mono (Kd.R_bound (Kd.R_drew HM.out.rO)) (fun k hk => hk.2.1)) HBW.out) (Kd.R_lower (Kd.R_mono (Kd.R_bound (Kd.R_drew HM.out.rR)) (fun k hk => hk.2.1)) HBW.out)⟩
    have HOK : Aside0 (∀ k, W.heap.size ≤ k → True ∧ some k ≠ (Value.slice AM f.1.length cM).ownBlock) := ⟨fun k hk => ⟨trivial, fun he => by have := Kd.R_lt HP0.out.rM k he.symm; omega⟩⟩
    clear n1_ HT HF HTZ
    refine start_ (n := 13) (S := fun w' => w'.cell? ⟨p, 1, none⟩ = some (.slice AM f.1.length cM) ∧ w'.cell? ⟨h, 0, none⟩ = some (.string NM) ∧ w'.cell? ⟨h, 1, none⟩ = some (.slice AF r.1.1.length cF) ∧ w'.cell? ⟨h, 2, none⟩ = some (.slice AO r.1.2.1.length cO) ∧ w'.cell? ⟨h, 3, none⟩ = some (.slice AR r.1.2.2.length cR) ∧ w'.cell? ⟨h, 4, none⟩ = some (.int .i64 (pAt e s))) (ds := [8, 12]) #[false, false, false, false, false, false, false, false, false, false, false, false, false] (by kernel_rfl) rfl rfl ⟨hp1, y0, y1, y2, y3, y4⟩ (fun hHeld => ?_)
    generalize wc.drew = WD at *
    refine pure_ (i := 0) (N := some 47) (v := ?_) (a' := ?_) #[true, false, false, false, false, false, false, false, false, false, false, false, false] rfl rfl (by kernel_rfl) (fun _ _ _ h => h) (Or.inl ⟨by rfl, ?_⟩) ?_ ?_
    rotate_left
    · intro w'
      go_simp
      with_reducible rfl
    rotate_left
    · simp only [Act.put, List.setIfInBounds_toArray, List.set_cons_zero, List.set_cons_succ]
      rfl
    refine pure_ (i := 1) (N := some 48) (v := ?_) (a' := ?_) #[true, true, false, false, false, false, false, false, false, false, false, false, false] rfl rfl (by kernel_rfl) (fun _ _ _ h => h) (Or.inl ⟨by rfl, ?_⟩) ?_ ?_
    rotate_left
    · intro w'
      go_simp
      with_reducible rfl
    rotate_left
    · simp only [Act.put, List.setIfInBounds_toArray, List.set_cons_zero, List.set_cons_succ]
      rfl
    refine pure_ (i := 2) (N := some 49) (v := ?_) (a' := ?_) #[true, true, true, false, false, false, false, false, false, false, false, false, false] rfl rfl (by kernel_rfl) (fun _ _ _ h => h) (Or.inl ⟨by rfl, ?_⟩) ?_ ?_
    rotate_left
    · intro w'
      go_simp
      with_reducible rfl
    rotate_left
    · simp only [Act.put, List.setIfInBounds_toArray, List.set_cons_zero, List.set_cons_succ]
      rfl
    refine pure_ (i := 3) (N := some 50) (v := ?_) (a' := ?_) #[true, true, true, true, false, false, false, false, false, false, false, false, false] rfl rfl (by kernel_rfl) (fun _ _ _ h => h) (Or.inl ⟨by rfl, ?_⟩) ?_ ?_
    rotate_left
    · intro w'
      go_simp
      with_reducible rfl
    rotate_left
    · simp only [Act.put, List.setIfInBounds_toArray, List.set_cons_zero, List.set_cons_succ]
      rfl
    refine pure_ (i := 4) (N := some 51) (v := ?_) (a' := ?_) #[true, true, true, true, true, false, false, false, false, false, false, false, false] rfl rfl (by kernel_rfl) (fun _ _ _ h => h) (Or.inl ⟨by rfl, ?_⟩) ?_ ?_
    rotate_left
    · intro w'
      go_simp
      with_reducible rfl
    rotate_left
    · simp only [Act.put, List.setIfInBounds_toArray, List.set_cons_zero, List.set_cons_succ]
      rfl
    refine take_ (i := 5) (N := some 52) (v := ?_) (a' := ?_) #[true, true, true, true, true, true, false, false, false, false, false, false, false] rfl rfl (by kernel_rfl) (fun _ _ _ h => h) (Or.inl ⟨by rfl, ?_⟩) hHeld ?_ ?_
    rotate_left
    · rintro w' ⟨s0, s1, s2, s3, s4, s5⟩
      go_simp
      with_reducible rfl
    rotate_left
    · simp only [Act.put, List.setIfInBounds_toArray, List.set_cons_zero, List.set_cons_succ]
      rfl
    refine take_ (i := 6) (N := some 53) (v := ?_) (a' := ?_) #[true, true, true, true, true, true, true, false, false, false, false, false, false] rfl rfl (by kernel_rfl) (fun _ _ _ h => h) (Or.inl ⟨by rfl, ?_⟩) hHeld ?_ ?_
    rotate_left
    · rintro w' ⟨s0, s1, s2, s3, s4, s5⟩
      go_simp
      with_reducible rfl
    rotate_left
    · simp only [Act.put, List.setIfInBounds_toArray, List.set_cons_zero, List.set_cons_succ]
      rfl
    refine one_ (i := 7) (N := some 54) #[true, true, true, true, true, true, true, true, false, false, false, false, false] rfl rfl (by kernel_rfl) (by decide) (fun K hK => ?_)
    refine value_ (w1 := ?_) (v := ?_) (by rfl) rfl ?_ ?_
    rotate_left 2
    · go_simp
      constructor
      · rfl
      · rfl
    refine hK.out _ _ ⟨(pw_cell_below (below_alloc (Below.refl _ _) _) hHeld.1), (pw_cell_below (below_alloc (Below.refl _ _) _) hHeld.2.1), (pw_cell_below (below_alloc (Below.refl _ _) _) hHeld.2.2.1), (pw_cell_below (below_alloc (Below.refl _ _) _) hHeld.2.2.2.1), (pw_cell_below (below_alloc (Below.refl _ _) _) hHeld.2.2.2.2.1), (pw_cell_below (below_alloc (Below.refl _ _) _) hHeld.2.2.2.2.2)⟩ (fun hHeld => ?_)
    clear hK K
    refine norm_ (a' := ?_) ?_ ?_
    rotate_left
    · show Act.put _ (some 54) _ = _
      simp only [Act.put, List.setIfInBounds_toArray, List.set_cons_zero, List.set_cons_succ]
      rfl
    refine last_ (i := 8) (N := some 55) #[true, true, true, true, true, true, true, true, true, false, false, false, false] rfl rfl (by kernel_rfl) (by decide) (fun K hK => ?_)
    refine Kd.R_append_step k40 (w0 := WD) B (by rfl) (.tmp 52) (.tmp 54) 23 40 (.agg #[(.string ⟨#[]⟩), (.slice none 0 0), (.slice none 0 0), (.slice none 0 0), (.int .i64 0)]) 96 rfl Tryd.underlying23 info40 rfl (by decide) (by decide) _ f.1 ⟨NM, r.1.1, r.1.2.1, r.1.2.2, pAt e s⟩ [.string NM, .slice AF r.1.1.length cF, .slice AO r.1.2.1.length cO, .slice AR r.1.2.2.length cR, .int .i64 (pAt e s)] (fun _ => True) (fun k => W.heap.size ≤ k) rfl rfl HMM.out HOK.out (fun _ _ => trivial) HP.out.rM (Below.refl _ _) HS1.out (by have := HLEN.out; omega) ?_
    intro v1 w1 hR1 _ hg1 _
    obtain ⟨A1, c1, hv1⟩ := Kd.R_slice hR1
    have hv2 : v1 = .slice A1 (f.1.length + 1) c1 := by rw [hv1, List.length_append]; rfl
    clear hv1
    subst hv2
    have HR1 := Aside0.mk hR1
    have HG1 := Aside0.mk hg1
    clear hR1 hg1
    have hf1 := blk_frozen (blk_grow HP.out.rM HP.out.blk (by decide) HG1.out) 1
    have hk1 := (blk_cell (blk_grow HP.out.rM HP.out.blk (by decide) HG1.out) 1).trans rfl
    refine hK.out _ _ ?_
    clear hK K
    refine norm_ (a' := ?_) ?_ ?_
    rotate_left
    · show Act.put _ (some 55) _ = _
      simp only [Act.put, List.setIfInBounds_toArray, List.set_cons_zero, List.set_cons_succ]
      rfl
    refine pure_ (i := 9) (N := some 56) (v := ?_) (a' := ?_) #[true, true, true, true, true, true, true, true, true, true, false, false, false] rfl rfl (by kernel_rfl) (fun _ _ _ h => h) (Or.inl ⟨by rfl, ?_⟩) ?_ ?_
    rotate_left
    · intro w'
      go_simp
      with_reducible rfl
    rotate_left
    · simp only [Act.put, List.setIfInBounds_toArray, List.set_cons_zero, List.set_cons_succ]
      rfl
    refine pure_ (i := 10) (N := some 57) (v := ?_) (a' := ?_) #[true, true, true, true, true, true, true, true, true, true, true, false, false] rfl rfl (by kernel_rfl) (fun _ _ _ h => h) (Or.inl ⟨by rfl, ?_⟩) ?_ ?_
    rotate_left
    · intro w'
      go_simp
      with_reducible rfl
    rotate_left
    · simp only [Act.put, List.setIfInBounds_toArray, List.set_cons_zero, List.set_cons_succ]
      rfl
    refine pure_ (i := 11) (N := some 58) (v := ?_) (a' := ?_) #[true, true, true, true, true, true, true, true, true, true, true, true, false] rfl rfl (by kernel_rfl) (fun _ _ _ h => h) (Or.inl ⟨by rfl, ?_⟩) ?_ ?_
    rotate_left
    · intro w'
      go_simp
      with_reducible rfl
    rotate_left
    · simp only [Act.put, List.setIfInBounds_toArray, List.set_cons_zero, List.set_cons_succ]
      rfl
    refine last_ (i := 12) (N := none) #[true, true, true, true, true, true, true, true, true, true, true, true, true] rfl rfl (by kernel_rfl) (by decide) (fun K hK => ?_)
    refine skip_ (w1 := ?_) (by rfl) rfl ?_ ?_
    rotate_left
    · go_simp
      rfl
    refine hK.out _ _ ?_
    clear hK K
    refine done_ (by kernel_rfl) ?_
    go_wp2_with fail
    go_end0
    have hq := HP.out.appM HR1.out HG1.out
    refine ⟨rfl, (HTD.out.other (grown_below HP.out.rM HG1.out HS1.out)).setp hq.blk rfl, ⟨_, _, hq⟩, fun B0 h1 h2 h3 => ?_⟩
    exact ((HFD.out.below (Below.refl B0 W) (Nat.le_trans h1 HBW.out) h3).trans ((grown_below HP.out.rM HG1.out HS1.out).mono h1)).setCell (p := ⟨p, 1, none⟩) h2 _
end Go.Proofs.YtddpjjhekhompaaDoor.P
namespace Go.Proofs.YtddpjjhekhompaaDoor.P
open Go.RowKit Go.Proofs.YtddpjjhekhompaaDoorW.PrintWords Go.Proofs.YtddpjjhekhompaaDoorW.PrintLast Go.Proofs.YtddpjjhekhompaaDoorW.PrintMore
set_option linter.unusedVariables false
set_option linter.unusedSimpArgs false
structure EB (D : Nat) (W : World) (h : Nat) (nm : ByteArray) (vs : List ValS) (a : Int) (vV : Value) : Prop where
  blk : W.heap[h]? = some (.cells #[.string nm, vV, .int .i64 a] 71 (0, 0))
  rV : k74.R 74 W D (fun _ => True) vV vs
  ge : D ≤ h
theorem EB.keep {D g h : Nat} {W W' : World} {nm : ByteArray} {vs : List ValS} {a : Int} {vV : Value} (H : EB D W h nm vs a vV) (hF : Fr W.heap.size g W W') (hg : g < D) : EB D W' h nm vs a vV :=
  ⟨(hF.block h (blk_lt H.blk) (by have := H.ge; omega)).trans H.blk, R_fr H.rV hF hg, H.ge⟩
theorem EB.below {D h : Nat} {W W' : World} {nm : ByteArray} {vs : List ValS} {a : Int} {vV : Value} (H : EB D W h nm vs a vV) (hb : Below W.heap.size W W') : EB D W' h nm vs a vV := ⟨blk_below H.blk hb, Kd.R_below H.rV hb, H.ge⟩
theorem EB.drawn {D h : Nat} {W W' : World} {nm : ByteArray} {vs : List ValS} {a : Int} {vV : Value} (H : EB D W h nm vs a vV) (hd : Drawn0 W W') : EB D W' h nm vs a vV := H.below hd.below
theorem EB.name {D h : Nat} {W : World} {nm : ByteArray} {vs : List ValS} {a : Int} {vV : Value} (H : EB D W h nm vs a vV) (n2 : ByteArray) : EB D (W.setCell ⟨h, 0, none⟩ (.string n2)) h n2 vs a vV := ⟨blk_put H.blk 0 _ rfl, Kd.R_set H.rV H.blk (by decide) 0 _, H.ge⟩
theorem EB.new (W : World) (a : Int) (D : Nat) (hD : D ≤ W.heap.size) : EB D (W.alloc (.cells #[.string (⟨#[]⟩ : ByteArray), .slice none 0 0, .int .i64 a] 71 (0, 0))) W.heap.size ⟨#[]⟩ [] a (.slice none 0 0) := ⟨blk_new _ _, Kd.R_nil _ _ _ _ _, hD⟩
theorem EB.appV {D h : Nat} {W W' : World} {nm : ByteArray} {vs l : List ValS} {a : Int} {vV v : Value} (H : EB D W h nm vs a vV) (hR : k74.R 74 W' D (fun _ => True) v l) (hg : W.grownBy W' vV.ownBlock) : EB D (W'.setCell ⟨h, 1, none⟩ v) h nm l a v := by
  have hb := blk_grow H.rV H.blk (by decide) hg
  exact ⟨blk_put hb 1 _ rfl, Kd.R_set hR hb (by decide) 1 v, H.ge⟩
theorem R_far2 {α : Type} {d : Kd α} {t B b j : Nat} {W W' : World} {v u : Value} {xs : List α} (h : d.R t W B (fun k => k ≠ b) v xs) (e : W' = W.setCell ⟨b, j, none⟩ u) : d.R t W' B (fun k => k ≠ b) v xs := e ▸ Kd.R_far h (p := ⟨b, j, none⟩) (fun _ hk => hk) u
set_option maxHeartbeats 2000000 in
set_option maxRecDepth 100000 in
theorem enum_s {B p g : Nat} {W : World} {l : TL} {e : Int} {s : PS} {f : FileS} {vM vE : Value} (H : TS B W p g l e s) (HPB : PB B W p g f vM vE) (hl : f.2.length ≤ 1000000) : Calls Tryd.prog 10 #[.pointer (some ⟨p, 0, none⟩)] W (TopP B W p g l e (f.1, f.2 ++ [(pEnum e s).1]) (pEnum e s).2) := by
  have HT0 := Aside0.mk H
  have HL0 := Aside0.mk H.lens
  have HG0 : Aside0 (g < W.heap.size) := ⟨by have := H.lens; omega⟩
  have HT := Aside0.mk (H.lift H.lens.2.1 (Nat.le_refl _))
  have HLEN := Aside0.mk hl
  obtain ⟨AE, cE, rfl⟩ := Kd.R_slice HPB.rE
  have HP0 := Aside0.mk HPB
  have hc := H.par
  have q1 := tok_f1
  obtain ⟨r, hr⟩ : ∃ r, pLoopW [125] pVal [] e (pMust [123] (pTake 0 (pTake 0 s).2).2) = r := ⟨_, rfl⟩
  have HR := Aside0.mk hr
  obtain ⟨NM, hnm⟩ : ∃ NM, (pTake 0 (pTake 0 s).2).1.f1 = NM := ⟨_, rfl⟩
  have HE : Aside0 (pEnum e s = (⟨NM, r.1, pAt e s⟩, r.2)) := ⟨by unfold pEnum; rw [hr, hnm]⟩
  have HNM := Aside0.mk hnm
  rw [HE.out]
  clear H HPB hl hr hnm
  go_enter Tryd.func10, Tryd.ntmps10
  go_wp2_with fail
  go_at_call 11
  refine (at_s HT.out).mono ?_
  rintro en_ W1 ⟨rfl, hd⟩
  have n1_ := Aside0.mk (HT.out.drawn hd)
  have HF := Aside0.mk (drawn_fr hd W.heap.size g)
  clear HT hc hd
  have HT := n1_
  have hc := HT.out.par
  clear n1_
  have hcA : ∀ o, (W1.alloc o).cell? ⟨p, 0, none⟩ = some (.pointer (some ⟨g, 0, none⟩)) := fun o => pw_cell_below (below_alloc (Below.refl _ W1) o) hc
  go_wp2_with fail
  clear hcA
  have n1_ := Aside0.mk (HT.out.alloc (.cells #[.string (⟨#[]⟩ : ByteArray), .slice none 0 0, .int .i64 (pAt e s)] 71 (0, 0)))
  have n2_ := Aside0.mk (HF.out.alloc HF.out.size (.cells #[.string (⟨#[]⟩ : ByteArray), .slice none 0 0, .int .i64 (pAt e s)] 71 (0, 0)))
  have n3_ := Aside0.mk (EB.new W1 (pAt e s) W.heap.size HF.out.size)
  have HHW := Aside0.mk HF.out.size
  clear HT HF hc
  generalize W1.alloc (.cells #[.string (⟨#[]⟩ : ByteArray), .slice none 0 0, .int .i64 (pAt e s)] 71 (0, 0)) = V0 at *
  obtain ⟨h, hh⟩ : ∃ h, W1.heap.size = h := ⟨_, rfl⟩
  rw [hh] at n3_ HHW ⊢
  clear hh
  have HT := n1_
  have HF := n2_
  have HM := n3_
  have hc := HT.out.par
  clear n1_ n2_ n3_
  go_at_call 22
  refine (take_s 0 HT.out).mono ?_
  rintro en_ V1 ⟨rfl, h1, f1⟩
  have n4_ := Aside0.mk (HM.out.keep f1 HG0.out)
  clear HM
  have HM := n4_
  clear n4_
  have n1_ := Aside0.mk h1
  have n2_ := Aside0.mk (HF.out.trans (f1.mono HF.out.size))
  clear hc HT HF
  have hc := h1.par
  have HT := n1_
  have HF := n2_
  clear h1 f1 n1_ n2_
  go_wp2_with fail
  go_at_call 22
  refine (take_s 0 HT.out).mono ?_
  rintro en_ V2 ⟨rfl, h1, f1⟩
  have n4_ := Aside0.mk (HM.out.keep f1 HG0.out)
  clear HM
  have HM := n4_
  clear n4_
  have n1_ := Aside0.mk h1
  have n2_ := Aside0.mk (HF.out.trans (f1.mono HF.out.size))
  clear hc HT HF
  have hc := h1.par
  have HT := n1_
  have HF := n2_
  clear h1 f1 n1_ n2_
  have hph : p ≠ h := by have := HL0.out; have := HHW.out; omega
  have hhp := Ne.symm hph
  have z0 : _ = some (Value.string _) := (blk_cell HM.out.blk 0).trans rfl
  have w0 := blk_frozen HM.out.blk 0
  go_wp2_with fail
  clear z0 w0 hph hhp hc
  rw [HNM.out] at ⊢
  have n1_ := Aside0.mk (HT.out.far (q := ⟨h, 0, none⟩) HM.out.ge (.string NM))
  have n2_ := Aside0.mk (HF.out.far (p := ⟨h, 0, none⟩) HM.out.ge (.string NM))
  have n3_ := Aside0.mk (HM.out.name NM)
  clear HT HF HM
  generalize V2.setCell ⟨h, 0, none⟩ (.string NM) = V3 at *
  have HT := n1_
  have HF := n2_
  have HM := n3_
  have hc := HT.out.par
  clear n1_ n2_ n3_
  go_at_call 23
  refine (must_s (⟨#[123]⟩ : ByteArray) HT.out).mono ?_
  rintro en_ V4 ⟨rfl, h1, f1⟩
  have n4_ := Aside0.mk (HM.out.keep f1 HG0.out)
  clear HM
  have HM := n4_
  clear n4_
  have n1_ := Aside0.mk h1
  have n2_ := Aside0.mk (HF.out.trans (f1.mono HF.out.size))
  clear hc HT HF
  have hc := h1.par
  have HT := n1_
  have HF := n2_
  clear h1 f1 n1_ n2_
  have hbl : bl (⟨#[123]⟩ : ByteArray) = [123] := rfl
  rw [hbl] at HT
  clear hbl hc
  obtain ⟨S0, hS0⟩ : ∃ S0, pMust [123] (pTake 0 (pTake 0 s).2).2 = S0 := ⟨_, rfl⟩
  rw [hS0] at HT HR
  clear hS0
  go_upto_block 0 with (fail)
  go_cut [2] (fun v2 V => v2 = .pointer (some ⟨h, 0, none⟩) ∧ ∃ vV : Value, Aside0 (TS W.heap.size V p g l e r.2) ∧ Aside0 (EB W.heap.size V h NM r.1 (pAt e s) vV) ∧ Aside0 (Fr W.heap.size g W V))
  case first =>
    go_wp2
    go_loopg [27] (mu S0) (fun n _ V => ∃ (l1 : List ValS) (s1 : PS) (A2 : Option Addr) (c2 : Nat), Aside0 (TS W.heap.size V p g l e s1) ∧ Aside0 (EB W.heap.size V h NM l1 (pAt e s) (.slice A2 l1.length c2)) ∧ Aside0 (Fr W.heap.size g W V) ∧ Aside0 (pLoop [125] pVal n l1 e s1 = r) ∧ Aside0 (mu s1 ≤ n ∧ l1.length + n ≤ 1001))
    case atStart =>
      refine ⟨[], S0, _, _, HT, HM, HF, HR, ⟨Nat.le_refl _, ?_⟩⟩
      have h2 : mu S0 ≤ 1001 := by
        unfold mu
        split
        · omega
        · have := HT.out.lens.1; omega
      exact Nat.le_trans (Nat.le_of_eq (Nat.zero_add _)) h2
    case round =>
      clear HT HM HF HR
      obtain ⟨l1, s1, A2, c2, HT, HM, HF, HR, HN⟩ := hrel
      have hc := HT.out.par
      have hb3 := HT.out.bad
      cases hb : s1.b with
      | true =>
        rw [hb] at hb3
        have HE2 : Aside0 (r = (l1, s1)) := ⟨by rw [← HR.out]; exact pLoop_stay _ _ _ _ _ _ hb⟩
        clear hb HR
        go_wp2
        go_meet
        exact ⟨rfl, _, by rw [HE2.out]; exact HT, by rw [HE2.out]; exact HM, HF⟩
      | false =>
        rw [hb] at hb3
        cases gk with
        | zero =>
          have := mu_zero s1 (by have := HN.out; omega)
          rw [hb] at this
          cases this
        | succ k1 =>
          have HSG := Aside0.mk (sign_s (⟨#[125]⟩ : ByteArray) HT.out)
          have hbl : bl (⟨#[125]⟩ : ByteArray) = [125] := rfl
          rw [hbl] at HSG
          clear hbl
          have hR2 := HR.out
          rw [pLoop, if_neg (by rw [hb]; decide)] at hR2
          cases hsg : (pSign [125] s1).1 with
          | true =>
            rw [hsg, if_pos rfl] at hR2
            rw [hsg] at HSG
            have HE2 := Aside0.mk hR2
            clear hsg hR2 HR hb
            go_wp2_with fail
            go_at_call 24
            refine HSG.out.mono ?_
            rintro en_ W4 ⟨rfl, h1, f1⟩
            have n1_ := Aside0.mk h1
            have n2_ := Aside0.mk (HM.out.keep f1 HG0.out)
            have n3_ := Aside0.mk (HF.out.trans (f1.mono HF.out.size))
            clear HT HM HF hc hb3 h1 f1 HSG
            go_wp2
            go_meet
            exact ⟨rfl, _, by rw [← HE2.out]; exact n1_, by rw [← HE2.out]; exact n2_, n3_⟩
          | false =>
            have hs2 : (pSign [125] s1).2 = s1 := sign_no _ _ hsg
            rw [hsg, if_neg Bool.false_ne_true] at hR2
            rw [hsg, hs2] at HSG
            have HMU := Aside0.mk ((val_good l1).mu_lt e s1 hb)
            have HE2 := Aside0.mk hR2
            have HLE : Aside0 ((l1.length + 1) * 32 ≤ 140737488355328) := ⟨by have := HN.out; omega⟩
            clear hsg hs2 hR2 HR hb
            go_wp2_with fail
            go_at_call 24
            refine HSG.out.mono ?_
            rintro en_ W4 ⟨rfl, h1, f1⟩
            have n1_ := Aside0.mk h1
            have n2_ := Aside0.mk (HM.out.keep f1 HG0.out)
            have n3_ := Aside0.mk (HF.out.trans (f1.mono HF.out.size))
            clear HT HM HF hc hb3 h1 f1 HSG
            have hc := n1_.out.par
            go_wp2_with fail
            go_at_call 11
            refine (at_s n1_.out).mono ?_
            rintro en_ W5 ⟨rfl, hd⟩
            have HT := Aside0.mk (n1_.out.drawn hd)
            have HM := Aside0.mk (n2_.out.drawn hd)
            have HF := Aside0.mk (n3_.out.trans (drawn_fr hd W.heap.size g))
            clear n1_ n2_ n3_ hd hc
            have hc := HT.out.par
            have hcA : ∀ o, (W5.alloc o).cell? ⟨p, 0, none⟩ = some (.pointer (some ⟨g, 0, none⟩)) := fun o => pw_cell_below (below_alloc (Below.refl _ W5) o) hc
            go_wp2_with fail
            clear hcA hc
            have n1_ := Aside0.mk (HT.out.alloc (.cells #[.string (⟨#[]⟩ : ByteArray), .int .i64 0, .int .i64 (pAt e s1)] 74 (0, 0)))
            have n2_ := Aside0.mk (HM.out.below (below_alloc (Below.refl _ W5) (.cells #[.string (⟨#[]⟩ : ByteArray), .int .i64 0, .int .i64 (pAt e s1)] 74 (0, 0))))
            have n3_ := Aside0.mk (HF.out.alloc HF.out.size (.cells #[.string (⟨#[]⟩ : ByteArray), .int .i64 0, .int .i64 (pAt e s1)] 74 (0, 0)))
            have HX := Aside0.mk (blk_new W5 (.cells #[.string (⟨#[]⟩ : ByteArray), .int .i64 0, .int .i64 (pAt e s1)] 74 (0, 0)))
            have HVW := Aside0.mk HF.out.size
            have HVH : Aside0 (W5.heap.size ≠ h) := ⟨Nat.ne_of_gt (blk_lt HM.out.blk)⟩
            have hrr := Kd.R_alloc (Kd.R_bound HM.out.rV) (.cells #[.string (⟨#[]⟩ : ByteArray), .int .i64 0, .int .i64 (pAt e s1)] 74 (0, 0))
            have HRV := Aside0.mk (Kd.R_mono hrr (ok' := fun k => k ≠ W5.heap.size) (fun k hk => Nat.ne_of_lt hk.2.2.1))
            clear HT HM HF hrr
            generalize W5.alloc (.cells #[.string (⟨#[]⟩ : ByteArray), .int .i64 0, .int .i64 (pAt e s1)] 74 (0, 0)) = V6 at *
            obtain ⟨vb, hvb⟩ : ∃ vb, W5.heap.size = vb := ⟨_, rfl⟩
            rw [hvb] at HX HVW HVH HRV ⊢
            clear hvb
            have HVG : Aside0 (vb ≠ g) := ⟨by have := HVW.out; have := HG0.out; omega⟩
            go_at_call 26
            refine (named_s n1_.out).mono ?_
            rintro en_ V7 ⟨rfl, h1, f1⟩
            have HT := Aside0.mk h1
            have HM := Aside0.mk (n2_.out.keep f1 HG0.out)
            have HF := Aside0.mk (n3_.out.trans (f1.mono n3_.out.size))
            have hx := (f1.block vb (blk_lt HX.out) HVG.out).trans HX.out
            have hrv := Kd.R_bound HRV.out
            have hrv2 := Kd.R_keep hrv (f1.keep rfl) (fun k hk => (by have := hk.2.1; have := HG0.out; omega))
            have HRV7 := Aside0.mk (Kd.R_mono hrv2 (ok' := fun k => k ≠ vb) (fun k hk => hk.1))
            have x0 := blk_frozen hx 0
            have x1 := blk_frozen hx 1
            have y0 : _ = some (Value.string _) := (blk_cell hx 0).trans rfl
            have y1 : _ = some (Value.int .i64 _) := (blk_cell hx 1).trans rfl
            have HX7 := Aside0.mk hx
            clear n1_ n2_ n3_ h1 f1 hx hrv hrv2 HX HRV
            go_upto_region 7 with (fail)
            clear x0 x1 y0 y1
            have n1_ := Aside0.mk ((HT.out.far (q := ⟨vb, 0, none⟩) HVW.out (.string (pNamed s1).1.1)).far (q := ⟨vb, 1, none⟩) HVW.out (.int .i64 (pNamed s1).1.2))
            have n3_ := Aside0.mk ((HF.out.far (p := ⟨vb, 0, none⟩) HVW.out (.string (pNamed s1).1.1)).far (p := ⟨vb, 1, none⟩) HVW.out (.int .i64 (pNamed s1).1.2))
            have hb9 := blk_put (cs' := #[.string (pNamed s1).1.1, .int .i64 (pNamed s1).1.2, .int .i64 (pAt e s1)]) (blk_put (cs' := #[.string (pNamed s1).1.1, .int .i64 0, .int .i64 (pAt e s1)]) HX7.out 0 (.string (pNamed s1).1.1) rfl) 1 (.int .i64 (pNamed s1).1.2) rfl
            have hm9 := blk_far (blk_far HM.out.blk (p := ⟨vb, 0, none⟩) HVH.out.symm (.string (pNamed s1).1.1)) (p := ⟨vb, 1, none⟩) HVH.out.symm (.int .i64 (pNamed s1).1.2)
            have hr9 := Kd.R_mono (R_far2 (R_far2 HRV7.out (j := 0) (u := .string (pNamed s1).1.1) rfl) (j := 1) (u := .int .i64 (pNamed s1).1.2) rfl) (ok' := fun _ => True) (fun _ _ => trivial)
            have n2_ := Aside0.mk (EB.mk hm9 hr9 HM.out.ge)
            clear HT HM HF HX7 HRV7 hm9 hr9
            generalize (V7.setCell ⟨vb, 0, none⟩ (.string (pNamed s1).1.1)).setCell ⟨vb, 1, none⟩ (.int .i64 (pNamed s1).1.2) = V9 at *
            have HT := n1_
            have HM := n2_
            have HF := n3_
            clear n1_ n2_ n3_
            have hk0 : V9.cell? ⟨h, 1, none⟩ = some (.slice A2 l1.length c2) := (blk_cell HM.out.blk 1).trans rfl
            have y0 : _ = some (Value.string _) := (blk_cell hb9 0).trans rfl
            have y1 : _ = some (Value.int .i64 _) := (blk_cell hb9 1).trans rfl
            have y2 : _ = some (Value.int .i64 _) := (blk_cell hb9 2).trans rfl
            clear hb9
            have HS9 := Aside0.mk HF.out.size
            go_wp2_with ((with_reducible refine gate_builtin (b := .append) (xs := #[.tmp 57, .tmp 59]) rfl ?_); at_builtin; refine Kd.R_append k74 (w0 := V9) W.heap.size rfl (.tmp 57) (.tmp 59) 69 74 (.agg #[(.string ⟨#[]⟩), (.int .i64 0), (.int .i64 0)]) 32 rfl Tryd.underlying69 info74 rfl (by decide) (by decide) _ l1 ⟨(pNamed s1).1.1, (pNamed s1).1.2, pAt e s1⟩ [.string (pNamed s1).1.1, .int .i64 (pNamed s1).1.2, .int .i64 (pAt e s1)] (fun _ => True) (fun _ => False) rfl rfl (k74_mkM _ _ _ _) (fun _ hk => hk.elim) (fun _ _ => trivial) HM.out.rV (Below.refl _ _) HS9.out HLE.out ?_; intro v1 w1 hR1 _ hg1 _; obtain ⟨A5, c5, hv1⟩ := Kd.R_slice hR1; have hv2 : v1 = .slice A5 (l1.length + 1) c5 := (by rw [hv1, List.length_append]; rfl); clear hv1; subst hv2; have HR1 := Aside0.mk hR1; have HG1 := Aside0.mk hg1; clear hR1 hg1; have hf1 := blk_frozen (blk_grow HM.out.rV HM.out.blk (by decide) HG1.out) 1; have hk1 : _ = some (Value.slice _ _ _) := (blk_cell (blk_grow HM.out.rV HM.out.blk (by decide) HG1.out) 1).trans rfl)
            have n1_ := Aside0.mk ((HT.out.other (grown_below HM.out.rV HG1.out HS9.out)).far (q := ⟨h, 1, none⟩) HM.out.ge (.slice A5 (l1.length + 1) c5))
            have n2_ := Aside0.mk (HM.out.appV HR1.out HG1.out)
            have n3_ := Aside0.mk ((HF.out.trans (Fr.of_below (grown_below HM.out.rV HG1.out HS9.out))).far (p := ⟨h, 1, none⟩) HM.out.ge (.slice A5 (l1.length + 1) c5))
            clear HT HM HF HR1 HG1 hk0 y0 y1 y2 hf1 hk1
            go_roundg k1
            case measure => omega
            case rel => exact ⟨l1 ++ [⟨(pNamed s1).1.1, (pNamed s1).1.2, pAt e s1⟩], _, A5, c5, n1_, ⟨by rw [List.length_append]; exact n2_.out⟩, n3_, HE2, ⟨by have h1 : mu (pNamed s1).2 < mu s1 := HMU.out; have := HN.out; omega, by rw [List.length_append]; have := HN.out; simp only [List.length_cons, List.length_nil]; omega⟩⟩
  case rest =>
    obtain ⟨rfl, vV, HT, HM, HF⟩ := hcut
    go_wp2_with fail
    obtain ⟨AV, cV, rfl⟩ := Kd.R_slice HM.out.rV
    have n1_ := Aside0.mk (HP0.out.keep HF.out (show g < B from by have := HL0.out; omega) (by have := HL0.out; omega))
    have y0 := (blk_cell HM.out.blk 0).trans rfl
    have y1 := (blk_cell HM.out.blk 1).trans rfl
    have y2 := (blk_cell HM.out.blk 2).trans rfl
    have hp1 := (blk_cell n1_.out.blk 2).trans rfl
    have HP := Aside0.mk (n1_.out.below (Below.refl _ wc).drew)
    have HTZ := Aside0.mk (HT0.out.back HT.out HF.out.size)
    have HS1 : Aside0 (B ≤ wc.drew.heap.size) := ⟨Nat.le_trans HL0.out.2.1 HF.out.size⟩
    have HFD := Aside0.mk HF.out.drew
    have HTD := Aside0.mk HTZ.out.drew
    have HBW : Aside0 (B ≤ W.heap.size) := ⟨HL0.out.2.1⟩
    have HMM : Aside0 (k71.M wc.drew B (fun k => W.heap.size ≤ k) (⟨NM, r.1, pAt e s⟩ : EnumS) [.string NM, .slice AV r.1.length cV, .int .i64 (pAt e s)]) := ⟨k71_mkM _ _ _ _ (Kd.R_lower (Kd.R_mono (Kd.R_bound (Kd.R_drew HM.out.rV)) (fun k hk => hk.2.1)) HBW.out)⟩
    have HOK : Aside0 (∀ k, W.heap.size ≤ k → True ∧ some k ≠ (Value.slice AE f.2.length cE).ownBlock) := ⟨fun k hk => ⟨trivial, fun he => by have := Kd.R_lt HP0.out.rE k he.symm; omega⟩⟩
    clear n1_ HT HF HTZ
    refine start_ (n := 13) (S := fun w' => w'.cell? ⟨p, 2, none⟩ = some (.slice AE f.2.length cE) ∧ w'.cell? ⟨h, 0, none⟩ = some (.string NM) ∧ w'.cell? ⟨h, 1, none⟩ = some (.slice AV r.1.length cV) ∧ w'.cell? ⟨h, 2, none⟩ = some (.int .i64 (pAt e s))) (ds := [8, 12]) #[false, false, false, false, false, false, false, false, false, false, false, false, false] (by kernel_rfl) rfl rfl ⟨hp1, y0, y1, y2⟩ (fun hHeld => ?_)
    generalize wc.drew = WD at *
    refine pure_ (i := 0) (N := some 62) (v := ?_) (a' := ?_) #[true, false, false, false, false, false, false, false, false, false, false, false, false] rfl rfl (by kernel_rfl) (fun _ _ _ h => h) (Or.inl ⟨by rfl, ?_⟩) ?_ ?_
    rotate_left
    · intro w'
      go_simp
      with_reducible rfl
    rotate_left
    · simp only [Act.put, List.setIfInBounds_toArray, List.set_cons_zero, List.set_cons_succ]
      rfl
    refine pure_ (i := 1) (N := some 63) (v := ?_) (a' := ?_) #[true, true, false, false, false, false, false, false, false, false, false, false, false] rfl rfl (by kernel_rfl) (fun _ _ _ h => h) (Or.inl ⟨by rfl, ?_⟩) ?_ ?_
    rotate_left
    · intro w'
      go_simp
      with_reducible rfl
    rotate_left
    · simp only [Act.put, List.setIfInBounds_toArray, List.set_cons_zero, List.set_cons_succ]
      rfl
    refine pure_ (i := 2) (N := some 64) (v := ?_) (a' := ?_) #[true, true, true, false, false, false, false, false, false, false, false, false, false] rfl rfl (by kernel_rfl) (fun _ _ _ h => h) (Or.inl ⟨by rfl, ?_⟩) ?_ ?_
    rotate_left
    · intro w'
      go_simp
      with_reducible rfl
    rotate_left
    · simp only [Act.put, List.setIfInBounds_toArray, List.set_cons_zero, List.set_cons_succ]
      rfl
    refine pure_ (i := 3) (N := some 65) (v := ?_) (a' := ?_) #[true, true, true, true, false, false, false, false, false, false, false, false, false] rfl rfl (by kernel_rfl) (fun _ _ _ h => h) (Or.inl ⟨by rfl, ?_⟩) ?_ ?_
    rotate_left
    · intro w'
      go_simp
      with_reducible rfl
    rotate_left
    · simp only [Act.put, List.setIfInBounds_toArray, List.set_cons_zero, List.set_cons_succ]
      rfl
    refine pure_ (i := 4) (N := some 66) (v := ?_) (a' := ?_) #[true, true, true, true, true, false, false, false, false, false, false, false, false] rfl rfl (by kernel_rfl) (fun _ _ _ h => h) (Or.inl ⟨by rfl, ?_⟩) ?_ ?_
    rotate_left
    · intro w'
      go_simp
      with_reducible rfl
    rotate_left
    · simp only [Act.put, List.setIfInBounds_toArray, List.set_cons_zero, List.set_cons_succ]
      rfl
    refine take_ (i := 5) (N := some 67) (v := ?_) (a' := ?_) #[true, true, true, true, true, true, false, false, false, false, false, false, false] rfl rfl (by kernel_rfl) (fun _ _ _ h => h) (Or.inl ⟨by rfl, ?_⟩) hHeld ?_ ?_
    rotate_left
    · rintro w' ⟨s0, s1, s2, s3⟩
      go_simp
      with_reducible rfl
    rotate_left
    · simp only [Act.put, List.setIfInBounds_toArray, List.set_cons_zero, List.set_cons_succ]
      rfl
    refine take_ (i := 6) (N := some 68) (v := ?_) (a' := ?_) #[true, true, true, true, true, true, true, false, false, false, false, false, false] rfl rfl (by kernel_rfl) (fun _ _ _ h => h) (Or.inl ⟨by rfl, ?_⟩) hHeld ?_ ?_
    rotate_left
    · rintro w' ⟨s0, s1, s2, s3⟩
      go_simp
      with_reducible rfl
    rotate_left
    · simp only [Act.put, List.setIfInBounds_toArray, List.set_cons_zero, List.set_cons_succ]
      rfl
    refine one_ (i := 7) (N := some 69) #[true, true, true, true, true, true, true, true, false, false, false, false, false] rfl rfl (by kernel_rfl) (by decide) (fun K hK => ?_)
    refine value_ (w1 := ?_) (v := ?_) (by rfl) rfl ?_ ?_
    rotate_left 2
    · go_simp
      constructor
      · rfl
      · rfl
    refine hK.out _ _ ⟨(pw_cell_below (below_alloc (Below.refl _ _) _) hHeld.1), (pw_cell_below (below_alloc (Below.refl _ _) _) hHeld.2.1), (pw_cell_below (below_alloc (Below.refl _ _) _) hHeld.2.2.1), (pw_cell_below (below_alloc (Below.refl _ _) _) hHeld.2.2.2)⟩ (fun hHeld => ?_)
    clear hK K
    refine norm_ (a' := ?_) ?_ ?_
    rotate_left
    · show Act.put _ (some 69) _ = _
      simp only [Act.put, List.setIfInBounds_toArray, List.set_cons_zero, List.set_cons_succ]
      rfl
    refine last_ (i := 8) (N := some 70) #[true, true, true, true, true, true, true, true, true, false, false, false, false] rfl rfl (by kernel_rfl) (by decide) (fun K hK => ?_)
    refine Kd.R_append_step k71 (w0 := WD) B (by rfl) (.tmp 67) (.tmp 69) 24 71 (.agg #[(.string ⟨#[]⟩), (.slice none 0 0), (.int .i64 0)]) 48 rfl Tryd.underlying24 info71 rfl (by decide) (by decide) _ f.2 ⟨NM, r.1, pAt e s⟩ [.string NM, .slice AV r.1.length cV, .int .i64 (pAt e s)] (fun _ => True) (fun k => W.heap.size ≤ k) rfl rfl HMM.out HOK.out (fun _ _ => trivial) HP.out.rE (Below.refl _ _) HS1.out (by have := HLEN.out; omega) ?_
    intro v1 w1 hR1 _ hg1 _
    obtain ⟨A1, c1, hv1⟩ := Kd.R_slice hR1
    have hv2 : v1 = .slice A1 (f.2.length + 1) c1 := by rw [hv1, List.length_append]; rfl
    clear hv1
    subst hv2
    have HR1 := Aside0.mk hR1
    have HG1 := Aside0.mk hg1
    clear hR1 hg1
    have hf1 := blk_frozen (blk_grow HP.out.rE HP.out.blk (by decide) HG1.out) 2
    have hk1 := (blk_cell (blk_grow HP.out.rE HP.out.blk (by decide) HG1.out) 2).trans rfl
    refine hK.out _ _ ?_
    clear hK K
    refine norm_ (a' := ?_) ?_ ?_
    rotate_left
    · show Act.put _ (some 70) _ = _
      simp only [Act.put, List.setIfInBounds_toArray, List.set_cons_zero, List.set_cons_succ]
      rfl
    refine pure_ (i := 9) (N := some 71) (v := ?_) (a' := ?_) #[true, true, true, true, true, true, true, true, true, true, false, false, false] rfl rfl (by kernel_rfl) (fun _ _ _ h => h) (Or.inl ⟨by rfl, ?_⟩) ?_ ?_
    rotate_left
    · intro w'
      go_simp
      with_reducible rfl
    rotate_left
    · simp only [Act.put, List.setIfInBounds_toArray, List.set_cons_zero, List.set_cons_succ]
      rfl
    refine pure_ (i := 10) (N := some 72) (v := ?_) (a' := ?_) #[true, true, true, true, true, true, true, true, true, true, true, false, false] rfl rfl (by kernel_rfl) (fun _ _ _ h => h) (Or.inl ⟨by rfl, ?_⟩) ?_ ?_
    rotate_left
    · intro w'
      go_simp
      with_reducible rfl
    rotate_left
    · simp only [Act.put, List.setIfInBounds_toArray, List.set_cons_zero, List.set_cons_succ]
      rfl
    refine pure_ (i := 11) (N := some 73) (v := ?_) (a' := ?_) #[true, true, true, true, true, true, true, true, true, true, true, true, false] rfl rfl (by kernel_rfl) (fun _ _ _ h => h) (Or.inl ⟨by rfl, ?_⟩) ?_ ?_
    rotate_left
    · intro w'
      go_simp
      with_reducible rfl
    rotate_left
    · simp only [Act.put, List.setIfInBounds_toArray, List.set_cons_zero, List.set_cons_succ]
      rfl
    refine last_ (i := 12) (N := none) #[true, true, true, true, true, true, true, true, true, true, true, true, true] rfl rfl (by kernel_rfl) (by decide) (fun K hK => ?_)
    refine skip_ (w1 := ?_) (by rfl) rfl ?_ ?_
    rotate_left
    · go_simp
      rfl
    refine hK.out _ _ ?_
    clear hK K
    refine done_ (by kernel_rfl) ?_
    go_wp2_with fail
    go_end0
    have hq := HP.out.appE HR1.out HG1.out
    refine ⟨rfl, (HTD.out.other (grown_below HP.out.rE HG1.out HS1.out)).setp (j := 1) hq.blk rfl, ⟨_, _, hq⟩, fun B0 h1 h2 h3 => ?_⟩
    exact ((HFD.out.below (Below.refl B0 W) (Nat.le_trans h1 HBW.out) h3).trans ((grown_below HP.out.rE HG1.out HS1.out).mono h1)).setCell (p := ⟨p, 2, none⟩) h2 _
end Go.Proofs.YtddpjjhekhompaaDoor.P
namespace Go.Proofs.YtddpjjhekhompaaDoor.P
open Go.RowKit Go.Proofs.YtddpjjhekhompaaDoorW.PrintWords Go.Proofs.YtddpjjhekhompaaDoorW.PrintLast Go.Proofs.YtddpjjhekhompaaDoorW.PrintMore
set_option linter.unusedVariables false
set_option linter.unusedSimpArgs false
def PParseP (w : World) (f : FileS) (at_ en : Int) (e : Ending) (w' : World) : Prop :=
  ∃ v0 v1 : Value, e = .returned (.tuple #[.agg #[v0, v1], .int .i64 at_, .int .i64 en]) ∧ k40.R 40 w' w.heap.size (fun _ => True) v0 f.1 ∧ k71.R 71 w' w.heap.size (fun _ => True) v1 f.2 ∧ Below w.heap.size w w'
theorem pparse_ret {w V : World} {tmps : Array Value} {f : FileS} {a b : Int} {v0 v1 : Value} (ht : tmps.getD 2 undef = .pointer (some ⟨w.heap.size, 0, none⟩)) (h3 : tmps.getD 3 undef = .int .i64 a) (h4 : tmps.getD 4 undef = .int .i64 b)
    (hb : V.heap[w.heap.size]? = some (.cells #[v0, v1] 26 (0, 0))) (hM : k40.R 40 V w.heap.size (fun _ => True) v0 f.1) (hE : k71.R 71 V w.heap.size (fun _ => True) v1 f.2) (h0 : ∃ A n c, v0 = .slice A n c) (h1 : ∃ A n c, v1 = .slice A n c) (hB : Below w.heap.size w V) :
    bodyPost Tryd.prog Tryd.f5 (PParseP w f a b) .ret { tmps := tmps, defers := [] } V := by
  obtain ⟨A, n, c, rfl⟩ := h0
  obtain ⟨A', n', c', rfl⟩ := h1
  refine bodyPost_ret (results_ctt rfl _ _ w.heap.size 26 _ (0, 0) _ ht hb Tryd.underlying26 rfl (by kernel_rfl)) rfl ⟨_, _, ?_, hM, hE, hB⟩
  rw [h3, h4]
set_option maxRecDepth 100000 in
set_option maxHeartbeats 2000000 in
theorem pparse_err (s : ByteArray) (w : World) (hG : GInv w) (he : (allF s).2.2 ≠ 0) : Calls Tryd.prog 5 #[.string s] w (PParseP w ([], []) (allF s).2.1 (allF s).2.2) := by
  have HA := Aside0.mk (fun (W : World) (h : GInv W) => token_All.calls s (allF s).1 (allF s).2.1 (allF s).2.2 W h rfl)
  have HG := Aside0.mk (hG.below (below_alloc (Below.refl _ w) (.cells #[.slice none 0 0, .slice none 0 0] 26 (0, 0))))
  have hn : ((allF s).2.2 != 0) = true := bne_iff_ne.2 he
  clear he hG
  generalize (allF s).1 = l at *
  generalize (allF s).2.1 = p at *
  generalize (allF s).2.2 = e at *
  go_enter Tryd.func5, Tryd.ntmps5
  go_wp2_with fail
  go_at_call 6
  refine (HA.out _ HG.out).mono ?_
  rintro e1 W1 ⟨v0, rfl, hR, hB⟩
  have hb0 := blk_below (blk_new w (.cells #[.slice none 0 0, .slice none 0 0] 26 (0, 0))) hB
  have q0 : _ = some (Value.slice none 0 0) := (blk_cell hb0 0).trans rfl
  have q1 : _ = some (Value.slice none 0 0) := (blk_cell hb0 1).trans rfl
  have f0 := blk_frozen hb0 0
  have f1 := blk_frozen hb0 1
  have HB0 := Aside0.mk hb0
  have HB := Aside0.mk (below_step (below_alloc (Below.refl _ w) _) hB)
  clear hR hB hb0
  go_wp2
  have k1 := blk_put (blk_put HB0.out 0 (.slice none 0 0) rfl) 1 (.slice none 0 0) rfl
  have k2 := (HB.out.setCell (p := ⟨w.heap.size, 0, none⟩) (Nat.le_refl _) (.slice none 0 0)).setCell (p := ⟨w.heap.size, 1, none⟩) (Nat.le_refl _) (.slice none 0 0)
  refine pparse_ret (f := ([], [])) ?_ ?_ ?_ k1 (Kd.R_nil _ _ _ _ _) (Kd.R_nil _ _ _ _ _) ⟨_, _, _, rfl⟩ ⟨_, _, _, rfl⟩ k2
  · rfl
  · rfl
  · rfl
def PLoopI (w : World) (B p g : Nat) (L : TL) (e : Int) (f : FileS) (s : PS) (V : World) : Prop := TS B V p g L e s ∧ (∃ vM vE, PB B V p g f vM vE) ∧ Below (w.heap.size + 1) (w.alloc (.cells #[.slice none 0 0, .slice none 0 0] 26 (0, 0))) V
theorem PLoopI.drawn {w V V' : World} {B p g : Nat} {L : TL} {e : Int} {f : FileS} {s : PS} (h : PLoopI w B p g L e f s V) (hd : Drawn0 V V') : PLoopI w B p g L e f s V' := by
  obtain ⟨h1, ⟨vM, vE, h2⟩, h3⟩ := h
  refine ⟨h1.drawn hd, ⟨vM, vE, h2.below hd.below⟩, h3.trans ?_⟩
  obtain ⟨m, rfl⟩ := hd.out
  exact pw_below_drewN (Below.refl _ _) m
theorem PLoopI.drewN {w V : World} {B p g : Nat} {L : TL} {e : Int} {f : FileS} {s : PS} (h : PLoopI w B p g L e f s V) (m : Nat) : PLoopI w B p g L e f s (V.drewN m) := h.drawn ((Drawn0.refl V).step m)
theorem PLoopI.setb {w V : World} {B p g : Nat} {L : TL} {e : Int} {f : FileS} {s : PS} (h : PLoopI w B p g L e f s V) (hg : w.heap.size + 1 ≤ g) : PLoopI w B p g L e f ⟨s.r, true⟩ (V.setCell ⟨g, 3, none⟩ (.bool true)) := by
  obtain ⟨h1, ⟨vM, vE, h2⟩, h3⟩ := h
  have hl := h1.lens
  exact ⟨h1.setb, ⟨vM, vE, h2.keep ((Fr.refl _ g V).set_ 3 _) hl.2.2.2.1 hl.2.2.2.2⟩, h3.setCell (p := ⟨g, 3, none⟩) hg _⟩
theorem PLoopI.whole {w V : World} {B p g : Nat} {L : TL} {e : Int} {f : FileS} {s : PS} (h : PLoopI w B p g L e f s V) : Below w.heap.size w V := (below_alloc (Below.refl _ w) _).trans (h.2.2.mono (Nat.le_succ _))
theorem trow_of_C {W : World} {A : Option Addr} {l : List TokS} (h : k34.C W A l.length l) : TRow W A l := by
  intro j t hj
  have hlt : j < l.length := (List.getElem?_eq_some_iff.1 hj).1
  obtain ⟨ad, ha, h0, h1, h2, h3⟩ := at_T34 h (j : Int) (by omega) (by omega)
  rw [rd_at l j t hj, Int.toNat_natCast] at h0 h1 h2 h3
  exact ⟨ad, ha, h0, h1, h2, h3⟩
theorem trow_below {W W' : World} {A : Option Addr} {l : List TokS} (h : TRow W A l) (hb : Below W.heap.size W W') : TRow W' A l := by
  intro j t hj
  obtain ⟨ad, ha, h0, h1, h2, h3⟩ := h j t hj
  exact ⟨ad, ha, pw_cell_below hb h0, pw_cell_below hb h1, pw_cell_below hb h2, pw_cell_below hb h3⟩
theorem top1_bad (f : FileS) (e : Int) (s : PS) : (pTop1 f e s).1.1.length + (pTop1 f e s).1.2.length ≤ f.1.length + f.2.length + 1 := by
  unfold pTop1
  split
  · simp; omega
  · split
    · simp; omega
    · simp
theorem pTop_done (n : Nat) (f : FileS) (e : Int) (s : PS) (h : s.b = true ∨ s.r = []) : pTop n f e s = (f, s) := by
  cases n with
  | zero => rfl
  | succ n =>
    rw [pTop]
    rcases h with h | h
    · rw [if_pos h]
    · by_cases hb : s.b = true
      · rw [if_pos hb]
      · rw [if_neg hb, if_pos h]
set_option maxRecDepth 100000 in
set_option maxHeartbeats 4000000 in
theorem pparse_ok (s : ByteArray) (l : List TokS) (q : Int) (w : World) (hG : GInv w) (hA : token_All.f s = some (l, q, 0)) (hl : l.length ≤ 1000) (hs : s.size ≤ 140737488351232) : Calls Tryd.prog 5 #[.string s] w
    (PParseP w (if (pAll s.size l).2.b = true then ([], []) else (pAll s.size l).1) (if (pAll s.size l).2.b = true then pAt s.size (pAll s.size l).2 else s.size) (if (pAll s.size l).2.b = true then 4 else 0)) := by
  have HA := Aside0.mk (fun (W : World) (h : GInv W) => token_All.calls s l q 0 W h hA)
  have HG := Aside0.mk (hG.below (below_alloc (Below.refl _ w) (.cells #[.slice none 0 0, .slice none 0 0] 26 (0, 0))))
  obtain ⟨e, he⟩ : ∃ e : Int, (s.size : Int) = e := ⟨_, rfl⟩
  have HE := Aside0.mk he
  obtain ⟨R, hR⟩ : ∃ R, pAll s.size l = R := ⟨_, rfl⟩
  have HR : Aside0 (pTop (l.length + 1) ([], []) e ⟨l, false⟩ = R) := ⟨by rw [← he]; exact hR⟩
  rw [hR]
  obtain ⟨ff, hff⟩ : ∃ ff : FileS, (if R.2.b = true then (([], []) : FileS) else R.1) = ff := ⟨_, rfl⟩
  obtain ⟨fa, hfa⟩ : ∃ fa : Int, (if R.2.b = true then pAt s.size R.2 else s.size) = fa := ⟨_, rfl⟩
  obtain ⟨fe, hfe⟩ : ∃ fe : Int, (if R.2.b = true then 4 else 0) = fe := ⟨_, rfl⟩
  rw [hff, hfa, hfe]
  have HFF := Aside0.mk hff
  have HFA := Aside0.mk hfa
  have HFE := Aside0.mk hfe
  clear hG hA hR he hff hfa hfe
  go_enter Tryd.func5, Tryd.ntmps5
  go_wp2_with fail
  go_at_call 6
  refine (HA.out _ HG.out).mono ?_
  rintro e1 W1 ⟨v0, rfl, hR, hB⟩
  have HB := Aside0.mk hB
  have HRT := Aside0.mk hR
  obtain ⟨A, c, rfl⟩ := Kd.R_slice hR
  clear hR hB HA
  go_upto_block 0 with (fail)
  have hz1 : (w.alloc (.cells #[.slice none 0 0, .slice none 0 0] 26 (0, 0))).heap.size = w.heap.size + 1 := World.size_alloc ..
  have hz2 : (W1.alloc (.cells #[.slice A l.length c, .int .i64 (s.size : Int), .int .i64 0, .bool false] 47 (0, 0))).heap.size = W1.heap.size + 1 := World.size_alloc ..
  have hb1 := below_alloc (Below.refl _ W1) (.cells #[.slice A l.length c, .int .i64 (s.size : Int), .int .i64 0, .bool false] 47 (0, 0))
  have hn1 := blk_new W1 (.cells #[.slice A l.length c, .int .i64 (s.size : Int), .int .i64 0, .bool false] 47 (0, 0))
  generalize W1.alloc (.cells #[.slice A l.length c, .int .i64 (s.size : Int), .int .i64 0, .bool false] 47 (0, 0)) = W2 at *
  have hz3 : (W2.alloc (.cells #[.pointer (some ⟨W1.heap.size, 0, none⟩), .slice none 0 0, .slice none 0 0] 49 (0, 0))).heap.size = W2.heap.size + 1 := World.size_alloc ..
  have hb2 := below_alloc (Below.refl _ W2) (.cells #[.pointer (some ⟨W1.heap.size, 0, none⟩), .slice none 0 0, .slice none 0 0] 49 (0, 0))
  have hn2 := blk_new W2 (.cells #[.pointer (some ⟨W1.heap.size, 0, none⟩), .slice none 0 0, .slice none 0 0] 49 (0, 0))
  have hn3 := blk_below hn1 hb2
  generalize W2.alloc (.cells #[.pointer (some ⟨W1.heap.size, 0, none⟩), .slice none 0 0, .slice none 0 0] 49 (0, 0)) = V0 at *
  rw [hz2] at hn2 hz3
  obtain ⟨p, hp⟩ : ∃ p, W1.heap.size + 1 = p := ⟨_, rfl⟩
  obtain ⟨g, hg⟩ : ∃ g, W1.heap.size = g := ⟨_, rfl⟩
  rw [hp] at hn2 hz3 ⊢
  rw [hg] at hn2 hn3 ⊢
  have hbW := below_step hb1 (hb2)
  have hlw : w.heap.size + 1 ≤ g := by have := HB.out.size; rw [hz1] at this; omega
  have HLW := Aside0.mk hlw
  have HPG : Aside0 (p = g + 1) := ⟨by omega⟩
  have HZ0 : Aside0 (V0.heap.size = g + 2) := ⟨by omega⟩
  have hts : TS V0.heap.size V0 p g ⟨l, A, c⟩ e ⟨l, false⟩ := by
    refine ⟨0, rfl, ?_, ?_, ?_, ?_, ?_, ?_, ?_, hl, Nat.zero_le _, (Kd.R_reads' HRT.out).2.1, Nat.le_refl _⟩
    · rw [← HE.out]; exact hn3
    · exact (blk_cell hn2 0).trans rfl
    · exact trow_below (trow_of_C (Kd.R_reads' HRT.out).2.2) hbW
    · omega
    · omega
    · omega
    · intro ad ha
      have := Kd.R_lt HRT.out ad.block (by rw [show A = some ad from ha]; rfl)
      exact ⟨by omega, by omega, by omega⟩
  have hpb : PB V0.heap.size V0 p g ([], []) (.slice none 0 0) (.slice none 0 0) := ⟨hn2, Kd.R_nil _ _ _ _ _, Kd.R_nil _ _ _ _ _⟩
  have hbl : Below (w.heap.size + 1) (w.alloc (.cells #[.slice none 0 0, .slice none 0 0] 26 (0, 0))) V0 := by
    have h1 := HB.out.mono (Nat.le_of_eq hz1.symm)
    exact h1.trans (hbW.mono (by omega))
  have HI := Aside0.mk (show PLoopI w V0.heap.size p g ⟨l, A, c⟩ e ([], []) ⟨l, false⟩ V0 from ⟨hts, ⟨_, _, hpb⟩, hbl⟩)
  clear hz1 hz2 hz3 hb1 hb2 hn1 hn2 hn3 hts hpb hbl hbW hp hg HB HRT hlw HG
  obtain ⟨B, hB⟩ : ∃ B, V0.heap.size = B := ⟨_, rfl⟩
  rw [hB] at HI HZ0
  clear hB
  obtain ⟨L, hL⟩ : ∃ L, (⟨l, A, c⟩ : TL) = L := ⟨_, rfl⟩
  rw [hL] at HI
  clear hL
  go_cut [8] (fun v8 V => v8 = .pointer (some ⟨p, 0, none⟩) ∧ Aside0 (PLoopI w B p g L e R.1 R.2 V))
  case first =>
    go_wp2
    go_loopg [27] (l.length + 1) (fun n _ V => ∃ (f1 : FileS) (s1 : PS), Aside0 (PLoopI w B p g L e f1 s1 V) ∧ Aside0 (pTop n f1 e s1 = R) ∧ Aside0 (mu s1 ≤ n ∧ f1.1.length + f1.2.length + n ≤ 2000))
    case atStart => exact ⟨([], []), ⟨l, false⟩, HI, HR, ⟨Nat.le_refl _, by simp; omega⟩⟩
    case round =>
      clear HI HR
      obtain ⟨f1, s1, HI, HR, HN⟩ := hrel
      have hc := HI.out.1.par
      obtain ⟨k, hr, hk⟩ := HI.out.1
      have c0 : _ = some (Value.slice _ _ _) := (blk_cell hk.blk 0).trans rfl
      have c2 : _ = some (Value.int .i64 _) := (blk_cell hk.blk 2).trans rfl
      have c3 : _ = some (Value.bool _) := (blk_cell hk.blk 3).trans rfl
      have hkn := hk.hn
      have hll := hk.len
      have HRR := Aside0.mk hr
      clear hr hk
      cases hb : s1.b with
      | true =>
        rw [hb] at c3
        have HX : Aside0 (R = (f1, s1)) := ⟨by rw [← HR.out]; exact pTop_done _ _ _ _ (.inl hb)⟩
        clear hb HR
        go_wp2
        go_quiet (fail)
        go_wp2
        go_meet
        exact ⟨rfl, ⟨by rw [HX.out]; exact PLoopI.drewN HI.out _⟩⟩
      | false =>
        rw [hb] at c3
        by_cases hlt : k < L.l.length
        · have d1 : decide ((k : Int) < (L.l.length : Int)) = true := decide_eq_true (by omega)
          have d2 : decide (k < L.l.length) = true := decide_eq_true hlt
          have hne : s1.r ≠ [] := by rw [HRR.out, drop_here hlt]; exact List.cons_ne_nil _ _
          cases gk with
          | zero =>
            have := mu_zero s1 (by have := HN.out; omega)
            rw [hb] at this
            cases this
          | succ k1 =>
            have hR2 := HR.out
            rw [pTop, if_neg (by rw [hb]; decide), if_neg hne] at hR2
            have HX := Aside0.mk hR2
            have HMU := Aside0.mk ((top1_good f1).mu_lt e s1 hb)
            have HSZ := Aside0.mk (top1_bad f1 e s1)
            clear hR2 HR hne hb
            go_wp2
            go_quiet (fail)
            have HI2 := Aside0.mk (PLoopI.drewN HI.out nq)
            clear HI hc c0 c2 c3 d1 d2 hkn hll
            generalize wr.drewN nq = V1 at *
            have hc := HI2.out.1.par
            by_cases hm : pIs 0 0 wMsg s1 = true
            · have H1 := Aside0.mk (show pIs 0 0 (bl ⟨#[109, 101, 115, 115, 97, 103, 101]⟩) s1 = true from hm)
              have HT1 : Aside0 (pTop1 f1 e s1 = ((f1.1 ++ [(pMsg e s1).1], f1.2), (pMsg e s1).2)) := ⟨by unfold pTop1; rw [if_pos hm]⟩
              clear hm
              rw [HT1.out] at HX HMU HSZ
              go_wp2_with fail
              go_at_call 8
              refine (is0_b HI2.out.1 H1.out).mono ?_
              rintro en_ V2 ⟨rfl, hd⟩
              have HI3 := Aside0.mk (PLoopI.drawn HI2.out hd)
              clear hc hd HI2
              go_wp2_with fail
              go_at_call 9
              obtain ⟨vM, vE, hpb⟩ := HI3.out.2.1
              refine (message_s HI3.out.1 hpb (by have := HN.out; omega)).mono ?_
              rintro en_ V3 ⟨rfl, h1, h2, h3⟩
              have HI4 := Aside0.mk (show PLoopI w B p g L e (f1.1 ++ [(pMsg e s1).1], f1.2) (pMsg e s1).2 V3 from ⟨h1, h2, HI3.out.2.2.trans (h3 _ (by have := HZ0.out; have := HLW.out; omega) (by have := HPG.out; have := HLW.out; omega) HLW.out)⟩)
              clear h1 h2 h3 hpb HI3
              go_wp2_with fail
              go_roundg k1
              case measure => omega
              case rel => exact ⟨_, _, HI4, HX, ⟨by have h1 := HMU.out; have h2 := HN.out; (try dsimp only at h1 ⊢); omega, by have h1 := HSZ.out; have h2 := HN.out; (try dsimp only at h1 ⊢); omega⟩⟩
            · have H1 := Aside0.mk (show pIs 0 0 (bl ⟨#[109, 101, 115, 115, 97, 103, 101]⟩) s1 = false from Bool.eq_false_iff.2 hm)
              by_cases hen : pIs 0 0 wEnum s1 = true
              · have H2 := Aside0.mk (show pIs 0 0 (bl ⟨#[101, 110, 117, 109]⟩) s1 = true from hen)
                have HT1 : Aside0 (pTop1 f1 e s1 = ((f1.1, f1.2 ++ [(pEnum e s1).1]), (pEnum e s1).2)) := ⟨by unfold pTop1; rw [if_neg hm, if_pos hen]⟩
                clear hm hen
                rw [HT1.out] at HX HMU HSZ
                go_wp2_with fail
                go_at_call 8
                refine (is0_b HI2.out.1 H1.out).mono ?_
                rintro en_ V2 ⟨rfl, hd⟩
                have HI3 := Aside0.mk (PLoopI.drawn HI2.out hd)
                clear hc hd HI2
                have hc := HI3.out.1.par
                go_wp2_with fail
                go_at_call 8
                refine (is0_b HI3.out.1 H2.out).mono ?_
                rintro en_ V4 ⟨rfl, hd⟩
                have HI5 := Aside0.mk (PLoopI.drawn HI3.out hd)
                clear hc hd HI3
                go_wp2_with fail
                go_at_call 10
                obtain ⟨vM, vE, hpb⟩ := HI5.out.2.1
                refine (enum_s HI5.out.1 hpb (by have := HN.out; omega)).mono ?_
                rintro en_ V3 ⟨rfl, h1, h2, h3⟩
                have HI4 := Aside0.mk (show PLoopI w B p g L e (f1.1, f1.2 ++ [(pEnum e s1).1]) (pEnum e s1).2 V3 from ⟨h1, h2, HI5.out.2.2.trans (h3 _ (by have := HZ0.out; have := HLW.out; omega) (by have := HPG.out; have := HLW.out; omega) HLW.out)⟩)
                clear h1 h2 h3 hpb HI5
                go_wp2_with fail
                go_roundg k1
                case measure => omega
                case rel => exact ⟨_, _, HI4, HX, ⟨by have h1 := HMU.out; have h2 := HN.out; (try dsimp only at h1 ⊢); omega, by have h1 := HSZ.out; have h2 := HN.out; (try dsimp only at h1 ⊢); omega⟩⟩
              · have H2 := Aside0.mk (show pIs 0 0 (bl ⟨#[101, 110, 117, 109]⟩) s1 = false from Bool.eq_false_iff.2 hen)
                have HT1 : Aside0 (pTop1 f1 e s1 = (f1, ⟨s1.r, true⟩)) := ⟨by unfold pTop1; rw [if_neg hm, if_neg hen]⟩
                clear hm hen
                rw [HT1.out] at HX HMU HSZ
                go_wp2_with fail
                go_at_call 8
                refine (is0_b HI2.out.1 H1.out).mono ?_
                rintro en_ V2 ⟨rfl, hd⟩
                have HI3 := Aside0.mk (PLoopI.drawn HI2.out hd)
                clear hc hd HI2
                have hc := HI3.out.1.par
                go_wp2_with fail
                go_at_call 8
                refine (is0_b HI3.out.1 H2.out).mono ?_
                rintro en_ V4 ⟨rfl, hd⟩
                have HI5 := Aside0.mk (PLoopI.drawn HI3.out hd)
                clear hc hd HI3
                have hc := HI5.out.1.par
                have c3 := HI5.out.1.bad
                have f3 : V4.frozen? ⟨g, 3, none⟩ = false := by obtain ⟨n_, _, hh⟩ := HI5.out.1; exact blk_frozen hh.blk 3
                go_wp2_with fail
                have HI4 := Aside0.mk (PLoopI.setb HI5.out (by have := HLW.out; omega))
                go_roundg k1
                case measure => omega
                case rel => exact ⟨_, _, HI4, HX, ⟨by have h1 := HMU.out; have h2 := HN.out; (try dsimp only at h1 ⊢); omega, by have h1 := HSZ.out; have h2 := HN.out; (try dsimp only at h1 ⊢); omega⟩⟩
        · have d1 : decide ((k : Int) < (L.l.length : Int)) = false := decide_eq_false (by omega)
          have d2 : decide (k < L.l.length) = false := decide_eq_false hlt
          have HX : Aside0 (R = (f1, s1)) := ⟨by rw [← HR.out]; exact pTop_done _ _ _ _ (.inr (by rw [HRR.out, List.drop_of_length_le (by omega)]))⟩
          clear hb HR
          go_wp2
          go_quiet (fail)
          go_wp2
          go_meet
          exact ⟨rfl, ⟨by rw [HX.out]; exact PLoopI.drewN HI.out _⟩⟩
  case rest =>
    obtain ⟨rfl, HI⟩ := hcut
    have hc := HI.out.1.par
    have c3 := HI.out.1.bad
    have HRB := Aside0.mk ((HI.out.2.2.block w.heap.size (Nat.lt_succ_self _)).trans (blk_new w (.cells #[.slice none 0 0, .slice none 0 0] 26 (0, 0))))
    cases hb : R.2.b with
    | true =>
      rw [hb] at c3
      have H1 : Aside0 (([], []) = ff) := ⟨by rw [← HFF.out, if_pos hb]⟩
      have H2 : Aside0 (pAt e R.2 = fa) := ⟨by rw [← HFA.out, if_pos hb, HE.out]⟩
      have H3 : Aside0 ((4 : Int) = fe) := ⟨by rw [← HFE.out, if_pos hb]⟩
      clear hb
      go_wp2_with fail
      go_at_call 11
      refine (at_s HI.out.1).mono ?_
      rintro en_ V2 ⟨rfl, hd⟩
      have HI3 := Aside0.mk (PLoopI.drawn HI.out hd)
      have hb0 : V2.heap[w.heap.size]? = _ := (by obtain ⟨m_, rfl⟩ := hd.out; exact HRB.out)
      have q0 : _ = some (Value.slice none 0 0) := (blk_cell hb0 0).trans rfl
      have q1 : _ = some (Value.slice none 0 0) := (blk_cell hb0 1).trans rfl
      have f0 := blk_frozen hb0 0
      have f1 := blk_frozen hb0 1
      have HB0 := Aside0.mk hb0
      clear hd hc c3 hb0
      go_wp2
      have k1 := blk_put (blk_put HB0.out 0 (.slice none 0 0) rfl) 1 (.slice none 0 0) rfl
      have hbw := PLoopI.whole HI3.out
      have k2 := (hbw.setCell (p := ⟨w.heap.size, 0, none⟩) (Nat.le_refl _) (.slice none 0 0)).setCell (p := ⟨w.heap.size, 1, none⟩) (Nat.le_refl _) (.slice none 0 0)
      rw [← H1.out, ← H2.out, ← H3.out]
      refine pparse_ret (f := ([], [])) ?_ ?_ ?_ k1 (Kd.R_nil _ _ _ _ _) (Kd.R_nil _ _ _ _ _) ⟨_, _, _, rfl⟩ ⟨_, _, _, rfl⟩ k2
      · rfl
      · rfl
      · rfl
    | false =>
      rw [hb] at c3
      have H1 : Aside0 (R.1 = ff) := ⟨by rw [← HFF.out, if_neg (by rw [hb]; decide)]⟩
      have H2 : Aside0 (e = fa) := ⟨by rw [← HFA.out, if_neg (by rw [hb]; decide), HE.out]⟩
      have H3 : Aside0 ((0 : Int) = fe) := ⟨by rw [← HFE.out, if_neg (by rw [hb]; decide)]⟩
      clear hb
      obtain ⟨vM, vE, hpb⟩ := HI.out.2.1
      obtain ⟨AM, cM, rfl⟩ := Kd.R_slice hpb.rM
      obtain ⟨AE, cE, rfl⟩ := Kd.R_slice hpb.rE
      have p1 : wc.cell? ⟨p, 1, none⟩ = some (.slice AM R.1.1.length cM) := (blk_cell hpb.blk 1).trans rfl
      have p2 : wc.cell? ⟨p, 2, none⟩ = some (.slice AE R.1.2.length cE) := (blk_cell hpb.blk 2).trans rfl
      have q0 : wc.cell? ⟨w.heap.size, 0, none⟩ = some (.slice none 0 0) := (blk_cell HRB.out 0).trans rfl
      have q1 : wc.cell? ⟨w.heap.size, 1, none⟩ = some (.slice none 0 0) := (blk_cell HRB.out 1).trans rfl
      have f0 := blk_frozen HRB.out 0
      have f1 := blk_frozen HRB.out 1
      have HPB := Aside0.mk hpb
      clear hpb
      go_wp2
      have k0 := blk_put (cs' := #[.slice AM R.1.1.length cM, .slice none 0 0]) HRB.out 0 (.slice AM R.1.1.length cM) rfl
      have k1 := blk_put (cs' := #[.slice AM R.1.1.length cM, .slice AE R.1.2.length cE]) k0 1 (.slice AE R.1.2.length cE) rfl
      have k2 := ((PLoopI.whole HI.out).setCell (p := ⟨w.heap.size, 0, none⟩) (Nat.le_refl _) (.slice AM R.1.1.length cM)).setCell (p := ⟨w.heap.size, 1, none⟩) (Nat.le_refl _) (.slice AE R.1.2.length cE)
      have hwB : w.heap.size ≤ B := by have := HZ0.out; have := HLW.out; omega
      rw [← H1.out]
      refine pparse_ret (f := R.1) ?_ ?_ ?_ k1 (Kd.R_lower (Kd.R_set (Kd.R_set HPB.out.rM HRB.out (by decide) 0 _) k0 (by decide) 1 _) hwB) (Kd.R_lower (Kd.R_set (Kd.R_set HPB.out.rE HRB.out (by decide) 0 _) k0 (by decide) 1 _) hwB) ⟨_, _, _, rfl⟩ ⟨_, _, _, rfl⟩ k2
      · rfl
      · show Value.int .i64 (s.size : Int) = .int .i64 fa
        rw [← H2.out, HE.out]
      · show Value.int .i64 0 = .int .i64 fe
        rw [← H3.out]
def proto_Parse.f (a0 : ByteArray) : Option (List (S40) × List (S71) × Int × Int) := some ((parseF a0).1.1, (parseF a0).1.2, (parseF a0).2.1, (parseF a0).2.2)
theorem proto_Parse.calls (a0 : ByteArray) (r1 : List (S40)) (r2 : List (S71)) (r3 r4 : Int) (w : World) (hG : GInv w) (h : proto_Parse.f a0 = some (r1, r2, r3, r4)) :
    Calls Tryd.prog 5 #[.string a0] w fun e w' => ∃ v0_ v1_ : Value, e = .returned (.tuple #[.agg #[v0_, v1_], .int .i64 r3, .int .i64 r4]) ∧ Kd.R k40 40 w' w.heap.size (fun _ => True) v0_ r1 ∧ Kd.R k71 71 w' w.heap.size (fun _ => True) v1_ r2 ∧ Below w.heap.size w w' := by
  have hp : Calls Tryd.prog 5 #[.string a0] w (PParseP w (parseF a0).1 (parseF a0).2.1 (parseF a0).2.2) := by
    by_cases he : (allF a0).2.2 = 0
    · have hsz : a0.size ≤ 5000 := by
        by_cases hb : 5000 < a0.size
        · exact absurd he (allF_big a0 hb)
        · omega
      have e : parseF a0 = (if (pAll a0.size (allF a0).1).2.b = true then ([], []) else (pAll a0.size (allF a0).1).1, if (pAll a0.size (allF a0).1).2.b = true then pAt a0.size (pAll a0.size (allF a0).1).2 else a0.size, if (pAll a0.size (allF a0).1).2.b = true then 4 else 0) := by
        unfold parseF
        rw [if_neg (by rw [he]; decide)]
        by_cases hb : (pAll a0.size (allF a0).1).2.b = true
        · rw [if_pos hb, if_pos hb, if_pos hb, if_pos hb]
        · rw [if_neg hb, if_neg hb, if_neg hb, if_neg hb]
      rw [e]
      refine pparse_ok a0 (allF a0).1 (allF a0).2.1 w hG ?_ (allF_len a0) (by omega)
      unfold token_All.f
      rw [← he]
    · have e : parseF a0 = (([], []), (allF a0).2.1, (allF a0).2.2) := by unfold parseF; rw [if_pos he]
      rw [e]
      exact pparse_err a0 w hG he
  unfold proto_Parse.f at h
  simp only [Option.some.injEq, Prod.mk.injEq] at h
  obtain ⟨rfl, rfl, rfl, rfl⟩ := h
  exact hp
end Go.Proofs.YtddpjjhekhompaaDoor.P
namespace Go.Proofs.YtddpjjhekhompaaDoor.P
open Go.RowKit Go.Proofs.YtddpjjhekhompaaDoorW.PrintWords Go.Proofs.YtddpjjhekhompaaDoorW.PrintLast Go.Proofs.YtddpjjhekhompaaDoorW.PrintMore
set_option linter.unusedVariables false
set_option linter.unusedSimpArgs false
def bits_Mul64.f (a0 : Int) (a1 : Int) : Option (Int × Int) := some (IntKind.u64.wrap ((IntKind.u64.wrap ((IntKind.u64.wrap ((a0 / 4294967296) * (a1 / 4294967296))) + ((IntKind.u64.wrap ((IntKind.u64.wrap ((a0 / 4294967296) * (Go.bits .and .u64 a1 4294967295))) + ((IntKind.u64.wrap ((Go.bits .and .u64 a0 4294967295) * (Go.bits .and .u64 a1 4294967295))) / 4294967296))) / 4294967296))) + ((IntKind.u64.wrap ((Go.bits .and .u64 (IntKind.u64.wrap ((IntKind.u64.wrap ((a0 / 4294967296) * (Go.bits .and .u64 a1 4294967295))) + ((IntKind.u64.wrap ((Go.bits .and .u64 a0 4294967295) * (Go.bits .and .u64 a1 4294967295))) / 4294967296))) 4294967295) + (IntKind.u64.wrap ((Go.bits .and .u64 a0 4294967295) * (a1 / 4294967296))))) / 4294967296)), IntKind.u64.wrap (a0 * a1))
set_option maxHeartbeats 8000000 in
set_option maxRecDepth 100000 in
theorem bits_Mul64.calls (a0 : Int) (a1 : Int) (r1 : Int) (r2 : Int) (w : World) (h : bits_Mul64.f a0 a1 = some (r1, r2)) :
    Calls Tryd.prog 71 #[.int .u64 a0, .int .u64 a1] w fun e w' => e = .returned (.tuple #[.int .u64 r1, .int .u64 r2]) ∧ Drawn0 w w' := by
  have H : (some (IntKind.u64.wrap ((IntKind.u64.wrap ((IntKind.u64.wrap ((a0 / 4294967296) * (a1 / 4294967296))) + ((IntKind.u64.wrap ((IntKind.u64.wrap ((a0 / 4294967296) * (Go.bits .and .u64 a1 4294967295))) + ((IntKind.u64.wrap ((Go.bits .and .u64 a0 4294967295) * (Go.bits .and .u64 a1 4294967295))) / 4294967296))) / 4294967296))) + ((IntKind.u64.wrap ((Go.bits .and .u64 (IntKind.u64.wrap ((IntKind.u64.wrap ((a0 / 4294967296) * (Go.bits .and .u64 a1 4294967295))) + ((IntKind.u64.wrap ((Go.bits .and .u64 a0 4294967295) * (Go.bits .and .u64 a1 4294967295))) / 4294967296))) 4294967295) + (IntKind.u64.wrap ((Go.bits .and .u64 a0 4294967295) * (a1 / 4294967296))))) / 4294967296)), IntKind.u64.wrap (a0 * a1))) = some (r1, r2) := h
  clear h
  simp only [Option.some.injEq, Prod.mk.injEq] at H
  obtain ⟨rfl, rfl⟩ := H
  go_enter Tryd.func71, Tryd.ntmps71
  go_wp2
  go_ret2
  exact ⟨by first | rfl | (simp; done) | (simp [*]; done), by repeat (first | exact Drawn0.refl _ | apply Drawn0.step)⟩
end Go.Proofs.YtddpjjhekhompaaDoor.P
namespace Go.Proofs.YtddpjjhekhompaaDoor.P
open Go.RowKit Go.Proofs.YtddpjjhekhompaaDoorW.PrintWords Go.Proofs.YtddpjjhekhompaaDoorW.PrintLast Go.Proofs.YtddpjjhekhompaaDoorW.PrintMore
set_option linter.unusedVariables false
set_option linter.unusedSimpArgs false
def bits_Mul.f (a0 : Int) (a1 : Int) : Option (Int × Int) := (bits_Mul64.f a0 a1).bind fun bt138 => (some (bt138.1, bt138.2))
set_option maxHeartbeats 8000000 in
set_option maxRecDepth 100000 in
theorem bits_Mul.calls (a0 : Int) (a1 : Int) (r1 : Int) (r2 : Int) (w : World) (h : bits_Mul.f a0 a1 = some (r1, r2)) :
    Calls Tryd.prog 54 #[.int .u64 a0, .int .u64 a1] w fun e w' => e = .returned (.tuple #[.int .u64 r1, .int .u64 r2]) ∧ Drawn0 w w' := by
  have H : ((bits_Mul64.f a0 a1).bind fun bt138 => (some (bt138.1, bt138.2))) = some (r1, r2) := h
  clear h
  replace H := Option.bind_eq_some_iff.mp H
  obtain ⟨⟨t138, t139⟩, A30, H⟩ := H
  replace H : (some (t138, t139)) = some (r1, r2) := H
  have A3 := Aside0.mk A30
  clear A30
  simp only [Option.some.injEq, Prod.mk.injEq] at H
  obtain ⟨rfl, rfl⟩ := H
  go_enter Tryd.func54, Tryd.ntmps54
  go_wp2_with (first | ((with_reducible refine gate_callee (f := 71) rfl ?_); refine goesL_ (some 25) rfl rfl Tryd.func71 (by kernel_rfl) rfl #[.int .u64 a0, .int .u64 a1] rfl (by (try simp only [List.map_toArray, List.map_cons, List.map_nil]); first | done | rfl | (simp only [List.length_drop, List.length_take]; rfl)) ?_; (with_reducible refine (bits_Mul64.calls a0 a1 t138 t139 _ A3.out).mono ?_); rintro e w' ⟨rfl, ⟨nd, rfl⟩⟩; refine ⟨_, rfl, ?_⟩))
  go_ret2
  exact ⟨by first | rfl | (simp; done) | (simp [*]; done), by repeat (first | exact Drawn0.refl _ | apply Drawn0.step)⟩
end Go.Proofs.YtddpjjhekhompaaDoor.P
namespace Go.Proofs.YtddpjjhekhompaaDoor.P
open Go.RowKit Go.Proofs.YtddpjjhekhompaaDoorW.PrintWords Go.Proofs.YtddpjjhekhompaaDoorW.PrintLast Go.Proofs.YtddpjjhekhompaaDoorW.PrintMore
set_option linter.unusedVariables false
set_option linter.unusedSimpArgs false
set_option maxRecDepth 100000 in
theorem repeat0 (x : ByteArray) (w : World) : Calls Tryd.prog 40 #[.string x, .int .i64 0] w fun e w' => e = .returned (.string (⟨#[]⟩ : ByteArray)) ∧ Drawn0 w w' := by
  go_enter Tryd.func40, Tryd.ntmps40
  go_wp2
  go_ret
  exact ⟨rfl, Drawn0.refl _⟩
set_option maxRecDepth 100000 in
theorem repeat1 (x : ByteArray) (w : World) : Calls Tryd.prog 40 #[.string x, .int .i64 1] w fun e w' => e = .returned (.string x) ∧ Drawn0 w w' := by
  go_enter Tryd.func40, Tryd.ntmps40
  go_wp2
  go_ret
  exact ⟨rfl, Drawn0.refl _⟩
set_option maxRecDepth 100000 in
set_option maxHeartbeats 2000000 in
theorem repeat2 (w : World) : Calls Tryd.prog 40 #[.string (⟨#[32, 32]⟩ : ByteArray), .int .i64 2] w fun e w' => e = .returned (.string (⟨#[32, 32, 32, 32]⟩ : ByteArray)) ∧ Drawn0 w w' := by
  go_enter Tryd.func40, Tryd.ntmps40
  go_wp2_with fail
  go_at_call 54
  refine (bits_Mul.calls 2 2 0 4 w (by decide +kernel)).mono ?_
  rintro e1 W1 ⟨rfl, hd⟩
  have HD := Aside0.mk hd
  clear hd
  go_wp2_with fail
  go_at_call 34
  refine (strings_HasPrefix.calls _ ⟨#[32, 32]⟩ true W1 (by decide +kernel)).mono ?_
  rintro e1 W2 ⟨rfl, hd⟩
  have HD2 := Aside0.mk (drawn_trans HD.out hd)
  clear hd HD
  go_wp2
  go_ret
  exact ⟨congrArg (fun x => Ending.returned (Value.string x)) (by decide +kernel), HD2.out⟩
end Go.Proofs.YtddpjjhekhompaaDoor.P
namespace Go.Proofs.YtddpjjhekhompaaDoor.P
open Go.RowKit Go.Proofs.YtddpjjhekhompaaDoorW.PrintWords Go.Proofs.YtddpjjhekhompaaDoorW.PrintLast Go.Proofs.YtddpjjhekhompaaDoorW.PrintMore
set_option linter.unusedVariables false
set_option linter.unusedSimpArgs false
def notW (o : Obj) : Prop := ∀ cs m, o ≠ .cells cs 5 m ∧ o ≠ .cells cs 67 m
def KW (w w' : World) : Prop := ∀ (k : Nat) (o : Obj), w.heap[k]? = some o → notW o → w'.heap[k]? = some o
theorem KW.refl (w : World) : KW w w := fun _ _ h _ => h
theorem KW.trans {a b c : World} (h : KW a b) (k : KW b c) : KW a c := fun i o hi ho => k i o (h i o hi ho) ho
theorem KW.of_below {w w' : World} (h : Below w.heap.size w w') : KW w w' := fun k o hk _ => (h.block k (Array.getElem?_eq_some_iff.1 hk).1).trans hk
theorem KW.set_ {w : World} {b : Nat} {cs : Array Value} (hb : w.heap[b]? = some (.cells cs 67 (0, 0))) (j : Nat) (u : Value) : KW w (w.setCell ⟨b, j, none⟩ u) := by
  intro k o hk ho
  by_cases e : k = b
  · subst e
    rw [hb] at hk
    injection hk with hk
    exact absurd hk.symm (ho cs (0, 0)).2
  · exact (Below.heap_setCell w ⟨b, j, none⟩ u k e).trans hk
theorem KW.grown {w w' : World} {B n : Nat} {v : Value} {xs : List Value} (ho : w.ownsRow B 5 1 v n xs) (hg : w.grownBy w' v.ownBlock) : KW w w' := by
  intro k o hk hn
  refine (hg.block k (Array.getElem?_eq_some_iff.1 hk).1 ?_).trans hk
  intro he
  rcases ho.2 with ⟨rfl, _⟩ | ⟨g, cap, cur, rfl, _, hgk, _⟩
  · cases he
  · obtain rfl : k = g := by
      have : some k = some g := he
      injection this
    rw [hgk] at hk
    injection hk with hk
    exact absurd hk.symm (hn cur (0, 0)).1
theorem wb_size : (Tryd.prog.info? 65).map (·.size) = some 2 := by kernel_rfl
theorem wb_infoByte : (Tryd.prog.info? 5).map (fun i => (i.zero, i.size, i.bytes)) = some (some (.int .u8 0), 1, 1) := by kernel_rfl
theorem wb_lies : liesAt Tryd.prog Tryd.prog.depth 67 (2 / Tryd.prog.cellsOf 67) 0 65 1 = true := by kernel_rfl
set_option maxHeartbeats 1000000 in
set_option maxRecDepth 100000 in
theorem wb_used (b : Nat) (w : World) (h0 : w.cell? ⟨b, 0, none⟩ = some (.pointer (some ⟨b, 0, none⟩))) :
    Calls Tryd.prog 53 #[.pointer (some ⟨b, 0, none⟩)] w fun e w' => e = .returned (.tuple #[]) ∧ w' = w := by
  obtain ⟨j, hj, _⟩ := Option.map_eq_some_iff.1 wb_size
  go_enter Tryd.func53, Tryd.ntmps53
  go_wp2
  rw [Lib.run_neq_ptr_same w _ Tryd.underlying62 hj]
  go_wp2
  go_end0
  exact ⟨rfl, rfl⟩
set_option maxHeartbeats 1000000 in
set_option maxRecDepth 100000 in
theorem wb_fresh (b : Nat) (w : World) (h0 : w.cell? ⟨b, 0, none⟩ = some (.pointer none)) (hsh : w.shape? b = some (67, 2)) (hfz : w.frozen? ⟨b, 0, none⟩ = false) :
    Calls Tryd.prog 53 #[.pointer (some ⟨b, 0, none⟩)] w fun e w' => e = .returned (.tuple #[]) ∧ w' = w.setCell ⟨b, 0, none⟩ (.pointer (some ⟨b, 0, none⟩)) := by
  obtain ⟨j, hj, hjs⟩ := Option.map_eq_some_iff.1 wb_size
  have lies := wb_lies
  go_enter Tryd.func53, Tryd.ntmps53
  go_wp2
  rw [Lib.run_to_unsafe w ⟨b, 0, none⟩ Tryd.underlying62 Tryd.underlying124 hj (by rw [hjs]; decide) hsh (Nat.zero_lt_succ 1)]
  simp only [Result.andThen]
  rw [Oper.upon_value]
  go_wp2
  rw [run_callFunc_extern Tryd.func69 (by kernel_rfl) (by kernel_rfl) (by kernel_rfl) (e := Extern.AbiNoEscape.same) (by kernel_rfl)]
  rw [Lib.run_noEscape]
  simp only [Result.andThen]
  rw [Oper.upon_value]
  go_wp2
  rw [Lib.run_from_unsafe w ⟨b, 0, none⟩ Tryd.underlying124 Tryd.underlying62 hj hsh lies]
  simp only [Result.andThen]
  rw [Oper.upon_value]
  go_wp2
  go_end0
  exact ⟨rfl, rfl⟩
theorem wb_check (B b : Nat) (bs : List Value) (w : World) (h : Lib.IsBuilder 67 5 B b bs w) :
    Calls Tryd.prog 53 #[.pointer (some ⟨b, 0, none⟩)] w fun e w' => e = .returned (.tuple #[]) ∧ (Lib.BuilderAt 67 5 B b (.pointer (some ⟨b, 0, none⟩)) bs w' ∧ Below B w w' ∧ KW w w') := by
  rcases h with h | h
  · refine (wb_fresh b w h.cell0 h.shape h.frozen0).mono ?_
    rintro e w' ⟨rfl, rfl⟩
    obtain ⟨_, v0, hb0, _⟩ := id h
    exact ⟨rfl, h.used _, (Below.refl B w).setCell (p := ⟨b, 0, none⟩) h.1 _, KW.set_ hb0 0 _⟩
  · refine (wb_used b w h.cell0).mono ?_
    rintro e w' ⟨rfl, rfl⟩
    exact ⟨rfl, h, Below.refl B _, KW.refl _⟩
set_option maxHeartbeats 2000000 in
set_option maxRecDepth 100000 in
theorem wb_String (B b : Nat) (bs : List Value) (s : ByteArray) (w : World) (h : Lib.IsBuilder 67 5 B b bs w) (hlen : bs.length + s.size ≤ 140737488355328) (hBw : B ≤ w.heap.size) :
    Calls Tryd.prog 39 #[.pointer (some ⟨b, 0, none⟩), .string s] w fun e w' => e = .returned (.tuple #[.int .i64 s.size, .nilIface]) ∧ (Lib.BuilderAt 67 5 B b (.pointer (some ⟨b, 0, none⟩)) (bs ++ Lib.strCells s) w' ∧ Below B w w' ∧ KW w w') := by
  obtain ⟨i0, hi, hz0, hz1, hz2⟩ := info_parts wb_infoByte
  go_enter Tryd.func39, Tryd.ntmps39
  go_wp2_with (go_at_call 53; refine (wb_check B b bs _ h).mono ?_)
  rintro e w1 ⟨rfl, h1, hb1, hkw1⟩
  have HKW1 := Aside0.mk hkw1
  clear hkw1
  obtain ⟨hB, v, hbk, hown, hne⟩ := h1
  have c0 : w1.cell? ⟨b, 0, none⟩ = some (.pointer (some ⟨b, 0, none⟩)) := by rw [Lib.cell_of_heap hbk]; rfl
  have c1 : w1.cell? ⟨b, 1, none⟩ = some v := by rw [Lib.cell_of_heap hbk]; rfl
  go_wp2_with (at_builtin; refine Lib.wpList_append_own_string _ rfl _ _ 63 9 rfl B 5 i0 Tryd.underlying63 Tryd.underlying9 hi hz0 hz1 hz2 _ _ _ rfl hown s rfl ?c3 ?c4 ?c5 ?_)
  case c3 => unfold maxLen; omega
  case c4 => omega
  case c5 => have := hb1.size; omega
  intro v' w2 hown' hgrow _
  have HKW2 := Aside0.mk (HKW1.out.trans (KW.grown hown hgrow))
  have hlt : b < w1.heap.size := by
    rcases Nat.lt_or_ge b w1.heap.size with h' | h'
    · exact h'
    · simp [Array.getElem?_eq_none h'] at hbk
  have hb2 : w2.heap[b]? = some (.cells #[.pointer (some ⟨b, 0, none⟩), v] 67 (0, 0)) := by
    rw [hgrow.block b hlt (fun e => hne e.symm)]
    exact hbk
  have d0 : w2.cell? ⟨b, 0, none⟩ = some (.pointer (some ⟨b, 0, none⟩)) := by rw [Lib.cell_of_heap hb2]; rfl
  have d1 : w2.cell? ⟨b, 1, none⟩ = some v := by rw [Lib.cell_of_heap hb2]; rfl
  have f1 : w2.frozen? ⟨b, 1, none⟩ = false := Lib.frozen_of_heap hb2 1
  obtain ⟨ao, n', cap, rfl⟩ : ∃ ao n' cap, v' = .slice ao n' cap := by
    rcases hown'.2 with ⟨hv, _⟩ | ⟨g, cap, cur, hv, _⟩
    · exact ⟨_, _, _, hv⟩
    · exact ⟨_, _, _, hv⟩
  go_wp2
  go_ret2
  refine ⟨rfl, ?_, ?_, HKW2.out.trans (KW.set_ hb2 1 _)⟩
  · exact Lib.BuilderAt.put (T := 67) (e := 5) hB hb2 (bs' := bs ++ Lib.strCells s) (by simpa [Lib.strCells_length] using hown') (by decide)
  · exact (hb1.grown hgrow (by have := hb1.size; omega) (fun k hk => (hown.lt k hk).1)).setCell (p := ⟨b, 1, none⟩) hB _
theorem wb_bytesOne : Tryd.prog.cellsOf 5 = 1 := by kernel_rfl
set_option maxHeartbeats 2000000 in
set_option maxRecDepth 100000 in
theorem wb_Str_some (B b : Nat) (l : List UInt8) (w : World) (p : Value) (h : Lib.BuilderAt 67 5 B b p (Lib.byteCells l) w) (h0 : l ≠ []) :
    Calls Tryd.prog 21 #[.pointer (some ⟨b, 0, none⟩)] w fun e w' => e = .returned (.string ⟨l.toArray⟩) ∧ Below B w w' := by
  obtain ⟨hB, v, hbk, hown, hne⟩ := h
  have hl0 : l.length ≠ 0 := by simpa using h0
  rw [Lib.byteCells_length] at hown
  obtain ⟨g, cap, cur, rfl, hbg, hg, hnc, hcm, hcs, htake⟩ : ∃ g cap cur, v = .slice (some ⟨g, 0, none⟩) l.length cap ∧ B ≤ g ∧ w.heap[g]? = some (.cells cur 5 (0, 0)) ∧ l.length ≤ cap ∧ cap ≤ maxLen ∧ cur.size = cap * 1 ∧ cur.toList.take (l.length * 1) = Lib.byteCells l := by
    rcases hown.2 with ⟨_, hz⟩ | ⟨g, cap, cur, hv, r⟩
    · exact absurd hz hl0
    · exact ⟨g, cap, cur, hv, r⟩
  have c1 : w.drew.cell? ⟨b, 1, none⟩ = some (.slice (some ⟨g, 0, none⟩) l.length cap) := by
    have : w.drew.heap[b]? = some (.cells #[p, .slice (some ⟨g, 0, none⟩) l.length cap] 67 (0, 0)) := hbk
    rw [Lib.cell_of_heap this]; rfl
  have c0 : w.cell? ⟨b, 1, none⟩ = some (.slice (some ⟨g, 0, none⟩) l.length cap) := c1
  have hSD : (Builtin.unsafeSliceData_ #[63] 103 #[.slice (some ⟨g, 0, none⟩) l.length cap]).run Tryd.prog w.drew = .ok (.pointer (some ⟨g, 0, none⟩)) w.drew :=
    Lib.run_unsafeSliceData_row _ _ _ _ _ _ (by omega)
  have hUS : (Builtin.unsafeString_ #[103, 3] 9 #[.pointer (some ⟨g, 0, none⟩), .int .i64 l.length]).run Tryd.prog w.drew = .ok (.string ⟨l.toArray⟩) (w.drew.freeze ⟨g, 0, none⟩ l.length) := by
    refine Lib.run_unsafeString_row w.drew 103 3 9 5 Tryd.underlying103 wb_bytesOne g cur.size (by have hg' : w.drew.heap[g]? = some (.cells cur 5 (0, 0)) := hg; simp [World.shape?, hg']) l h0 (by omega) (by unfold maxLen at hcm; omega) ?_
    intro j x hx
    have := hown.cells (g := g) rfl j (.int .u8 x.toNat) (by simp [Lib.byteCells, hx])
    exact this
  clear hown htake hcs hne hbk hg
  go_enter Tryd.func21, Tryd.ntmps21
  go_wp2
  go_region
  all_goals (go_wp2; go_ret; exact ⟨rfl, Lib.below_freeze (Below.drew (Below.refl B w)) (p := ⟨g, 0, none⟩) hbg _⟩)
set_option maxHeartbeats 2000000 in
set_option maxRecDepth 100000 in
theorem wb_Str_nil (B b : Nat) (p : Value) (w : World) (hbk : w.heap[b]? = some (.cells #[p, .slice none 0 0] 67 (0, 0))) :
    Calls Tryd.prog 21 #[.pointer (some ⟨b, 0, none⟩)] w fun e w' => e = .returned (.string (⟨#[]⟩ : ByteArray)) ∧ Below B w w' := by
  have hUS : ∀ W : World, (Builtin.unsafeString_ #[103, 3] 9 #[.pointer none, .int .i64 0]).run Tryd.prog W = .ok (.string .empty) W := fun W => Lib.run_unsafeString_none W _ _ _ none
  have c1 : w.drew.cell? ⟨b, 1, none⟩ = some (.slice none 0 0) := by
    have : w.drew.heap[b]? = some (.cells #[p, .slice none 0 0] 67 (0, 0)) := hbk
    rw [Lib.cell_of_heap this]; rfl
  have c0 : w.cell? ⟨b, 1, none⟩ = some (.slice none 0 0) := c1
  have hSD : (Builtin.unsafeSliceData_ #[63] 103 #[.slice none 0 0]).run Tryd.prog w.drew = .ok (.pointer none) w.drew := rfl
  clear hbk
  go_enter Tryd.func21, Tryd.ntmps21
  go_wp2
  go_region
  all_goals (go_wp2; go_ret; exact ⟨rfl, Below.drew (Below.refl B w)⟩)
end Go.Proofs.YtddpjjhekhompaaDoor.P
namespace Go.Proofs.YtddpjjhekhompaaDoor.P
open Go.RowKit Go.Proofs.YtddpjjhekhompaaDoorW.PrintWords Go.Proofs.YtddpjjhekhompaaDoorW.PrintLast Go.Proofs.YtddpjjhekhompaaDoorW.PrintMore
set_option linter.unusedVariables false
set_option linter.unusedSimpArgs false
def WB (B : Nat) (W : World) (b : Nat) (l : List UInt8) : Prop := Lib.BuilderAt 67 5 B b (.pointer (some ⟨b, 0, none⟩)) (Lib.byteCells l) W ∨ (l = [] ∧ W.heap[b]? = some (.cells #[.pointer none, .slice none 0 0] 67 (0, 0)) ∧ B ≤ b)
theorem WB.builder {B b : Nat} {W : World} {l : List UInt8} (h : WB B W b l) : Lib.IsBuilder 67 5 B b (Lib.byteCells l) W := by
  rcases h with h | ⟨rfl, h, hB⟩
  · exact .inr h
  · exact .inl ⟨hB, _, h, own_nil W B 5 1, by simp [Value.ownBlock]⟩
theorem WB.keep {B b : Nat} {W W' : World} {l : List UInt8} (h : WB B W b l) (hb : Below W.heap.size W W') : WB B W' b l := by
  rcases h with ⟨hB, v, h1, h2, h3⟩ | ⟨h1, h2, hB⟩
  · exact .inl ⟨hB, v, blk_below h1 hb, pw_own_below h2 hb, h3⟩
  · exact .inr ⟨h1, blk_below h2 hb, hB⟩
theorem WB.drawn {B b : Nat} {W W' : World} {l : List UInt8} (h : WB B W b l) (hd : Drawn0 W W') : WB B W' b l := h.keep hd.below
theorem drawn_below {W W' : World} (hd : Drawn0 W W') (B : Nat) : Below B W W' := by
  obtain ⟨m, rfl⟩ := hd.out
  exact pw_below_drewN (Below.refl _ _) m
theorem cells_bytes (l : List UInt8) (s : ByteArray) : Lib.byteCells l ++ Lib.strCells s = Lib.byteCells (l ++ bl s) := by
  simp [Lib.byteCells, Lib.strCells]
def WStrP (B : Nat) (W : World) (b : Nat) (l : List UInt8) (s : ByteArray) (e : Ending) (W' : World) : Prop := e = .returned (.tuple #[.int .i64 s.size, .nilIface]) ∧ WB B W' b (l ++ bl s) ∧ Below B W W' ∧ KW W W'
theorem wstr_s {B b : Nat} {W : World} {l : List UInt8} {s : ByteArray} (h : WB B W b l) (hl : l.length + s.size ≤ 140737488355328) (hB : B ≤ W.heap.size) : Calls Tryd.prog 39 #[.pointer (some ⟨b, 0, none⟩), .string s] W (WStrP B W b l s) := by
  refine (wb_String B b _ s W h.builder (by rw [Lib.byteCells_length]; exact hl) hB).mono ?_
  rintro e W' ⟨rfl, h1, h2, h3⟩
  rw [cells_bytes] at h1
  exact ⟨rfl, .inl h1, h2, h3⟩
theorem repeat_any (n : Int) (h0 : 0 ≤ n) (h2 : n ≤ 2) (w : World) : Calls Tryd.prog 40 #[.string (⟨#[32, 32]⟩ : ByteArray), .int .i64 n] w fun e w' => e = .returned (.string (⟨(List.replicate (2 * n.toNat) 32).toArray⟩ : ByteArray)) ∧ Drawn0 w w' := by
  have : n = 0 ∨ n = 1 ∨ n = 2 := by omega
  rcases this with rfl | rfl | rfl
  · exact repeat0 _ w
  · exact repeat1 _ w
  · exact repeat2 w
def flatB (l : List ByteArray) : List UInt8 := (l.map bl).flatten
def lineL (n : Nat) (l : List ByteArray) : List UInt8 := List.replicate (2 * n) 32 ++ flatB l ++ [10]
def strsA (l : List ByteArray) : Array Value := (l.map Value.string).toArray
theorem strsA_at {W : World} {k : Nat} {l : List ByteArray} (h : W.heap[k]? = some (.cells (strsA l) 9 (0, 0))) (i : Nat) (hi : i < l.length) : W.cell? ⟨k, i, none⟩ = some (.string l[i]) := by
  rw [blk_cell h i]
  simp [strsA, hi]
theorem flatB_snoc (l : List ByteArray) (i : Nat) (hi : i < l.length) : flatB (l.take (i + 1)) = flatB (l.take i) ++ bl l[i] := by
  rw [show l.take (i + 1) = l.take i ++ [l[i]] from List.take_succ_eq_append_getElem hi]
  unfold flatB
  rw [List.map_append, List.flatten_append]
  show _ ++ (bl l[i] ++ []) = _
  rw [List.append_nil]
theorem flatB_le (l : List ByteArray) (i : Nat) : (flatB (l.take i)).length ≤ (flatB l).length := by
  have h : flatB l = flatB (l.take i) ++ flatB (l.drop i) := by
    unfold flatB
    rw [← List.flatten_append, ← List.map_append, List.take_append_drop]
  rw [h, List.length_append]
  omega
theorem notW_str (cs : Array Value) : notW (.cells cs 9 (0, 0)) := by
  intro c m
  refine ⟨fun h => ?_, fun h => ?_⟩ <;> (injection h with _ h2; exact absurd h2 (by decide))
def LineP (B : Nat) (W : World) (b : Nat) (l : List UInt8) (e : Ending) (W' : World) : Prop := e = .returned (.tuple #[]) ∧ WB B W' b l ∧ Below B W W' ∧ KW W W'
set_option maxHeartbeats 2000000 in
set_option maxRecDepth 100000 in
theorem line_s {B b k : Nat} {W : World} {l : List UInt8} (n : Int) (ps : List ByteArray) (h : WB B W b l) (h0 : 0 ≤ n) (h2 : n ≤ 2) (hk : W.heap[k]? = some (.cells (strsA ps) 9 (0, 0))) (hlen : l.length + (lineL n.toNat ps).length ≤ 140737488355328) (hp : ps.length ≤ 100) (hB : B ≤ W.heap.size) :
    Calls Tryd.prog 19 #[.pointer (some ⟨b, 0, none⟩), .int .i64 n, .slice (some ⟨k, 0, none⟩) ps.length ps.length] W (LineP B W b (l ++ lineL n.toNat ps)) := by
  have hll : (lineL n.toNat ps).length = 2 * n.toNat + (flatB ps).length + 1 := by unfold lineL; simp; omega
  rw [hll] at hlen
  obtain ⟨ind, hind⟩ : ∃ ind : ByteArray, (⟨(List.replicate (2 * n.toNat) 32).toArray⟩ : ByteArray) = ind := ⟨_, rfl⟩
  have HREP := Aside0.mk (fun V => repeat_any n h0 h2 V)
  rw [hind] at HREP
  have HIND : Aside0 (bl ind = List.replicate (2 * n.toNat) 32) := ⟨by rw [← hind]⟩
  clear hind
  have HL1 : Aside0 (l.length + ind.size ≤ 140737488355328) := ⟨by
    have h1 : (bl ind).length = ind.size := bl_length _
    rw [HIND.out, List.length_replicate] at h1
    omega⟩
  have HLEN := Aside0.mk hlen
  have HBW := Aside0.mk hB
  have HW0 := Aside0.mk (h.keep (Below.refl _ W).drew)
  have HB0 := Aside0.mk (Below.refl B W).drew
  have HK0 := Aside0.mk (KW.of_below (Below.refl W.heap.size W).drew)
  have HSK := Aside0.mk hk
  clear h hll hlen hB hk
  go_enter Tryd.func19, Tryd.ntmps19
  go_wp2_with fail
  refine start_ (n := 6) (S := fun w' => True) (ds := []) #[false, false, false, false, false, false] (by kernel_rfl) rfl rfl trivial (fun hHeld => ?_)
  generalize W.drew = WD at *
  refine pure_ (i := 0) (N := some 8) (v := ?_) (a' := ?_) #[true, false, false, false, false, false] rfl rfl (by kernel_rfl) (fun _ _ _ h => h) (Or.inl ⟨by rfl, ?_⟩) ?_ ?_
  rotate_left
  · intro w'
    go_simp
    with_reducible rfl
  rotate_left
  · simp only [Act.put, List.setIfInBounds_toArray, List.set_cons_zero, List.set_cons_succ]
    rfl
  refine pure_ (i := 1) (N := some 9) (v := ?_) (a' := ?_) #[true, true, false, false, false, false] rfl rfl (by kernel_rfl) (fun _ _ _ h => h) (Or.inl ⟨by rfl, ?_⟩) ?_ ?_
  rotate_left
  · intro w'
    go_simp
    with_reducible rfl
  rotate_left
  · simp only [Act.put, List.setIfInBounds_toArray, List.set_cons_zero, List.set_cons_succ]
    rfl
  refine pure_ (i := 2) (N := some 10) (v := ?_) (a' := ?_) #[true, true, true, false, false, false] rfl rfl (by kernel_rfl) (fun _ _ _ h => h) (Or.inl ⟨by rfl, ?_⟩) ?_ ?_
  rotate_left
  · intro w'
    go_simp
    with_reducible rfl
  rotate_left
  · simp only [Act.put, List.setIfInBounds_toArray, List.set_cons_zero, List.set_cons_succ]
    rfl
  refine pure_ (i := 3) (N := some 11) (v := ?_) (a' := ?_) #[true, true, true, true, false, false] rfl rfl (by kernel_rfl) (fun _ _ _ h => h) (Or.inl ⟨by rfl, ?_⟩) ?_ ?_
  rotate_left
  · intro w'
    go_simp
    with_reducible rfl
  rotate_left
  · simp only [Act.put, List.setIfInBounds_toArray, List.set_cons_zero, List.set_cons_succ]
    rfl
  refine one_ (i := 4) (N := some 12) #[true, true, true, true, true, false] rfl rfl (by kernel_rfl) (by decide) (fun K hK => ?_)
  refine goes_ Tryd.func40 (by kernel_rfl) rfl #[.string (⟨#[32, 32]⟩ : ByteArray), .int .i64 n] (by rfl) rfl rfl (by simp only [List.map_toArray, List.map_cons, List.map_nil]; rfl) ?_
  with_reducible refine (HREP.out _).mono ?_
  rintro e1 W1 ⟨rfl, hd⟩
  refine ⟨_, rfl, ?_⟩
  have HW1 := Aside0.mk (WB.drawn HW0.out hd)
  have HB1 := Aside0.mk (HB0.out.trans (drawn_below hd B))
  have HK1 := Aside0.mk (HK0.out.trans (KW.of_below hd.below))
  clear hd
  refine hK.out _ _ (trivial) (fun hHeld => ?_)
  clear hK K
  refine norm_ (a' := ?_) ?_ ?_
  rotate_left
  · show Act.put _ (some 12) _ = _
    simp only [Act.put, List.setIfInBounds_toArray, List.set_cons_zero, List.set_cons_succ]
    rfl
  refine one_ (i := 5) (N := some 13) #[true, true, true, true, true, true] rfl rfl (by kernel_rfl) (by decide) (fun K hK => ?_)
  refine goes_ Tryd.func39 (by kernel_rfl) rfl #[.pointer (some ⟨b, 0, none⟩), .string ind] (by rfl) rfl rfl (by simp only [List.map_toArray, List.map_cons, List.map_nil]; rfl) ?_
  with_reducible refine (wstr_s HW1.out HL1.out (Nat.le_trans HBW.out HB1.out.size)).mono ?_
  rintro e2 W2 ⟨rfl, h1, hb, hk⟩
  refine ⟨_, rfl, ?_⟩
  have HW2 := Aside0.mk h1
  have HB2 := Aside0.mk (HB1.out.trans hb)
  have HK2 := Aside0.mk (HK1.out.trans hk)
  clear h1 hb hk
  refine hK.out _ _ (trivial) (fun hHeld => ?_)
  clear hK K
  refine norm_ (a' := ?_) ?_ ?_
  rotate_left
  · show Act.put _ (some 13) _ = _
    simp only [Act.put, List.setIfInBounds_toArray, List.set_cons_zero, List.set_cons_succ]
    rfl
  refine done_ (by kernel_rfl) ?_
  clear HW0 HB0 HK0 HW1 HB1 HK1
  go_wp2
  go_loopg [16] ps.length (fun n_ v V => ∃ i : Nat, v = .int .i64 i ∧ Aside0 (WB B V b (l ++ bl ind ++ flatB (ps.take i))) ∧ Aside0 (Below B W V) ∧ Aside0 (KW W V) ∧ Aside0 (i + n_ = ps.length))
  case atStart => exact ⟨0, rfl, ⟨by have := HW2.out; simpa [flatB] using this⟩, HB2, HK2, ⟨by omega⟩⟩
  case round =>
    clear HW2 HB2 HK2
    obtain ⟨i, rfl, HW, HB, HK, HN⟩ := hrel
    have hin := HN.out
    have hbs : Aside0 ((bl ind).length = 2 * n.toNat) := ⟨by rw [HIND.out, List.length_replicate]⟩
    by_cases hlt : i < ps.length
    · have d1 : decide ((i : Int) < (ps.length : Int)) = true := decide_eq_true (by omega)
      have d2 : decide (i < ps.length) = true := decide_eq_true hlt
      have d3 : (0 : Int) ≤ (i : Int) := by omega
      have d4 : (i : Int) < (ps.length : Int) := by omega
      have hcell := strsA_at (HK.out _ _ HSK.out (notW_str _)) i hlt
      cases gk with
      | zero => omega
      | succ k1 =>
        have HLE : Aside0 ((l ++ bl ind ++ flatB (ps.take i)).length + ps[i].size ≤ 140737488355328) := ⟨by
          have h1 := flatB_le ps (i + 1)
          rw [flatB_snoc ps i hlt, List.length_append] at h1
          have h3 : (bl ps[i]).length = ps[i].size := bl_length _
          have h4 := hbs.out
          have := HLEN.out
          simp only [List.length_append]
          omega⟩
        go_wp2_with fail
        go_at_call 39
        refine (wstr_s HW.out HLE.out (Nat.le_trans HBW.out HB.out.size)).mono ?_
        rintro e3 W3 ⟨rfl, h1, hb, hk⟩
        have n1_ := Aside0.mk h1
        have n2_ := Aside0.mk (HB.out.trans hb)
        have n3_ := Aside0.mk (HK.out.trans hk)
        clear HW HB HK h1 hb hk hcell
        go_wp2_with fail
        go_roundg k1
        case measure => omega
        case rel => exact ⟨i + 1, by go_num, ⟨by rw [flatB_snoc ps i hlt, ← List.append_assoc]; exact n1_.out⟩, n2_, n3_, ⟨by omega⟩⟩
    · have d1 : decide ((i : Int) < (ps.length : Int)) = false := decide_eq_false (by omega)
      have d2 : decide (i < ps.length) = false := decide_eq_false hlt
      have HLE : Aside0 ((l ++ bl ind ++ flatB (ps.take i)).length + (⟨#[10]⟩ : ByteArray).size ≤ 140737488355328) := ⟨by
        have h1 := flatB_le ps i
        have h4 := hbs.out
        have := HLEN.out
        have h5 : (⟨#[10]⟩ : ByteArray).size = 1 := rfl
        simp only [List.length_append]
        omega⟩
      have HEQ : Aside0 (l ++ bl ind ++ flatB (ps.take i) ++ bl ⟨#[10]⟩ = l ++ lineL n.toNat ps) := ⟨by
        rw [List.take_of_length_le (by omega), HIND.out]
        show l ++ List.replicate (2 * n.toNat) 32 ++ flatB ps ++ [10] = l ++ (List.replicate (2 * n.toNat) 32 ++ flatB ps ++ [10])
        simp only [List.append_assoc]⟩
      go_wp2_with fail
      go_at_call 39
      refine (wstr_s HW.out HLE.out (Nat.le_trans HBW.out HB.out.size)).mono ?_
      rintro e3 W3 ⟨rfl, h1, hb, hk⟩
      have n1_ := Aside0.mk h1
      have n2_ := Aside0.mk (HB.out.trans hb)
      have n3_ := Aside0.mk (HK.out.trans hk)
      clear HW HB HK h1 hb hk
      go_wp2
      go_end0
      exact ⟨rfl, by rw [← HEQ.out]; exact n1_.out, n2_.out, n3_.out⟩
end Go.Proofs.YtddpjjhekhompaaDoor.P
namespace Go.Proofs.YtddpjjhekhompaaDoor.P
open Go.RowKit Go.Proofs.YtddpjjhekhompaaDoorW.PrintWords Go.Proofs.YtddpjjhekhompaaDoorW.PrintLast Go.Proofs.YtddpjjhekhompaaDoorW.PrintMore
set_option linter.unusedVariables false
set_option linter.unusedSimpArgs false
def dig (n : Int) : ByteArray := ⟨(Lib.itoa n).toArray⟩
def rngI (n : Int) : Prop := -9223372036854775808 ≤ n ∧ n ≤ 9223372036854775807
theorem digits_s (n : Int) (h : rngI n) (W : World) (hG : GInv W) : Calls Tryd.prog 20 #[.int .i64 n] W fun e w' => e = .returned (.string (dig n)) ∧ Below W.heap.size W w' :=
  token_Digits.calls n (dig n) W hG (by unfold token_Digits.f; rw [if_pos h.1, if_pos h.2]; rfl)
theorem line_m {B b k : Nat} {W : World} {l : List UInt8} (n : Int) (ps : List ByteArray) (m : Nat) (hm : ps.length = m) (h : WB B W b l) (h0 : 0 ≤ n) (h2 : n ≤ 2) (hk : W.heap[k]? = some (.cells (strsA ps) 9 (0, 0))) (hlen : l.length + (lineL n.toNat ps).length ≤ 140737488355328) (hp : ps.length ≤ 100) (hB : B ≤ W.heap.size) :
    Calls Tryd.prog 19 #[.pointer (some ⟨b, 0, none⟩), .int .i64 n, .slice (some ⟨k, 0, none⟩) m m] W (LineP B W b (l ++ lineL n.toNat ps)) := hm ▸ line_s n ps h h0 h2 hk hlen hp hB
def kindB (f : FieldS) : ByteArray := if f.f1.toList ≠ [] then (⟨#[109, 97, 112, 60]⟩ : ByteArray) ++ f.f1 ++ ⟨#[44, 32]⟩ ++ f.f0 ++ ⟨#[62]⟩ else if f.f2 = true then (⟨#[114, 101, 112, 101, 97, 116, 101, 100, 32]⟩ : ByteArray) ++ f.f0 else f.f0
def fieldParts (f : FieldS) : List ByteArray := [kindB f, ⟨#[32]⟩, f.f4, ⟨#[32, 61, 32]⟩, dig f.f5, ⟨#[59]⟩]
theorem field_len (n : Nat) (f : FieldS) : (kindB f).size ≤ (lineL n (fieldParts f)).length := by
  unfold lineL flatB fieldParts
  have := bl_length (kindB f)
  simp only [List.map_cons, List.flatten_cons, List.length_append]
  omega
theorem kind_len (f : FieldS) (l : List UInt8) (h : (kindB f).size ≤ l.length) (hl : l.length ≤ 140737488355328) : (kindB f).size ≤ 140737488355328 := Nat.le_trans h hl
set_option maxHeartbeats 2000000 in
set_option maxRecDepth 100000 in
theorem wfield_s {B b : Nat} {W : World} {l : List UInt8} (n : Int) (f : FieldS) (h : WB B W b l) (hG : GInv W) (h0 : 0 ≤ n) (h2 : n ≤ 2) (hr : rngI f.f5) (hlen : l.length + (lineL n.toNat (fieldParts f)).length ≤ 140737488355328) (hB : B ≤ W.heap.size) :
    Calls Tryd.prog 37 #[.pointer (some ⟨b, 0, none⟩), .int .i64 n, .agg #[.string f.f0, .string f.f1, .bool f.f2, .int .i64 f.f3, .string f.f4, .int .i64 f.f5, .int .i64 f.f6]] W (LineP B W b (l ++ lineL n.toNat (fieldParts f))) := by
  have HR := Aside0.mk hr
  have HLEN := Aside0.mk hlen
  have HBW := Aside0.mk hB
  have HWI := Aside0.mk h
  have HG := Aside0.mk hG
  clear h hG hr hlen hB
  go_enter Tryd.func37, Tryd.ntmps37
  go_upto_block 0 with (fail)
  go_cut [6] (fun v6 V => v6 = .string (kindB f) ∧ Aside0 (V = W.alloc (.cells #[.string f.f0, .string f.f1, .bool f.f2, .int .i64 f.f3, .string f.f4, .int .i64 f.f5, .int .i64 f.f6] 42 (0, 0))))
  case first =>
    have hsz := kind_len f (lineL n.toNat (fieldParts f)) (field_len n.toNat f) (by have := HLEN.out; omega)
    by_cases hk : f.f1.toList = []
    · have k1 : (!f.f1.toList.isEmpty) = false := by rw [hk]; rfl
      have hk1 : (f.f1.toList != []) = false := by rw [hk]; rfl
      have HT1 : Aside0 (f.f2 = true → kindB f = (⟨#[114, 101, 112, 101, 97, 116, 101, 100, 32]⟩ : ByteArray) ++ f.f0) := ⟨fun hf2 => by unfold kindB; rw [if_neg (by rw [hk]; simp), if_pos hf2]⟩
      have HT2 : Aside0 (f.f2 = false → kindB f = f.f0) := ⟨fun hf2 => by unfold kindB; rw [if_neg (by rw [hk]; simp), if_neg (by rw [hf2]; decide)]⟩
      generalize hf2 : f.f2 = b2 at *
      have HF2 := Aside0.mk hf2
      clear hf2
      cases b2 with
      | true =>
        have HKB := Aside0.mk (HT1.out rfl)
        rw [HKB.out, ByteArray.size_append] at hsz
        have s1 : (9223372036854775807 < 9 + f.f0.size) = False := eq_false (by have h9 : (⟨#[114, 101, 112, 101, 97, 116, 101, 100, 32]⟩ : ByteArray).size = 9 := rfl; omega)
        clear hk hsz
        go_wp2_with fail
        go_meet
        exact ⟨by rw [HKB.out], ⟨rfl⟩⟩
      | false =>
        have HKB := Aside0.mk (HT2.out rfl)
        clear hk hsz
        go_wp2_with fail
        go_meet
        exact ⟨by rw [HKB.out], ⟨rfl⟩⟩
    · have k1 : (!f.f1.toList.isEmpty) = true := by cases h : f.f1.toList with | nil => exact absurd h hk | cons => rfl
      have hk1 : (f.f1.toList != []) = true := bne_iff_ne.2 hk
      have HKB : Aside0 (kindB f = (⟨#[109, 97, 112, 60]⟩ : ByteArray) ++ f.f1 ++ ⟨#[44, 32]⟩ ++ f.f0 ++ ⟨#[62]⟩) := ⟨by unfold kindB; rw [if_pos hk]⟩
      rw [HKB.out, ByteArray.size_append, ByteArray.size_append, ByteArray.size_append, ByteArray.size_append] at hsz
      have h4 : (⟨#[109, 97, 112, 60]⟩ : ByteArray).size = 4 := rfl
      have h5 : (⟨#[44, 32]⟩ : ByteArray).size = 2 := rfl
      have h6 : (⟨#[62]⟩ : ByteArray).size = 1 := rfl
      rw [h4, h5, h6] at hsz
      clear h4 h5 h6
      have s1 : (9223372036854775807 < 4 + f.f1.size) = False := eq_false (by omega)
      have s2 : (9223372036854775807 < 4 + f.f1.size + 2) = False := eq_false (by omega)
      have s3 : (9223372036854775807 < 4 + f.f1.size + 2 + f.f0.size) = False := eq_false (by omega)
      have s4 : (9223372036854775807 < 4 + f.f1.size + 2 + f.f0.size + 1) = False := eq_false (by omega)
      clear hk hsz
      go_wp2_with fail
      go_meet
      exact ⟨by rw [HKB.out], ⟨rfl⟩⟩
  case rest =>
    obtain ⟨rfl, hwc⟩ := hcut
    obtain rfl := hwc.out
    clear hwc
    go_wp2_with fail
    obtain ⟨KB, hKB⟩ : ∃ KB, kindB f = KB := ⟨_, rfl⟩
    unfold fieldParts at HLEN ⊢
    rw [hKB] at HLEN ⊢
    clear hKB
    have hn0 := blk_new W (.cells #[.string f.f0, .string f.f1, .bool f.f2, .int .i64 f.f3, .string f.f4, .int .i64 f.f5, .int .i64 f.f6] 42 (0, 0))
    have hb0 := below_alloc (Below.refl _ W) (.cells #[.string f.f0, .string f.f1, .bool f.f2, .int .i64 f.f3, .string f.f4, .int .i64 f.f5, .int .i64 f.f6] 42 (0, 0))
    generalize W.alloc (.cells #[.string f.f0, .string f.f1, .bool f.f2, .int .i64 f.f3, .string f.f4, .int .i64 f.f5, .int .i64 f.f6] 42 (0, 0)) = V0 at *
    have y4 : V0.cell? ⟨W.heap.size, 4, none⟩ = some (.string f.f4) := (blk_cell hn0 4).trans rfl
    have y5 : V0.cell? ⟨W.heap.size, 5, none⟩ = some (.int .i64 f.f5) := (blk_cell hn0 5).trans rfl
    have HW0 := Aside0.mk (HWI.out.keep (below_drew1 hb0))
    have HB0 := Aside0.mk ((below_drew1 hb0).mono HBW.out)
    have HK0 := Aside0.mk (KW.of_below (below_drew1 hb0))
    have HG1 := Aside0.mk (HG.out.below (below_drew1 hb0))
    have HBW0 : Aside0 (B ≤ V0.drew.heap.size) := ⟨Nat.le_trans HBW.out hb0.size⟩
    clear HWI HG hn0 hb0
    refine start_ (n := 10) (S := fun w' => w'.cell? ⟨W.heap.size, 4, none⟩ = some (.string f.f4) ∧ w'.cell? ⟨W.heap.size, 5, none⟩ = some (.int .i64 f.f5)) (ds := [9]) #[false, false, false, false, false, false, false, false, false, false] (by kernel_rfl) rfl rfl ⟨y4, y5⟩ (fun hHeld => ?_)
    generalize V0.drew = WD at *
    refine pure_ (i := 0) (N := some 27) (v := ?_) (a' := ?_) #[true, false, false, false, false, false, false, false, false, false] rfl rfl (by kernel_rfl) (fun _ _ _ h => h) (Or.inl ⟨by rfl, ?_⟩) ?_ ?_
    rotate_left
    · intro w'
      go_simp
      with_reducible rfl
    rotate_left
    · simp only [Act.put, List.setIfInBounds_toArray, List.set_cons_zero, List.set_cons_succ]
      rfl
    refine pure_ (i := 1) (N := some 28) (v := ?_) (a' := ?_) #[true, true, false, false, false, false, false, false, false, false] rfl rfl (by kernel_rfl) (fun _ _ _ h => h) (Or.inl ⟨by rfl, ?_⟩) ?_ ?_
    rotate_left
    · intro w'
      go_simp
      with_reducible rfl
    rotate_left
    · simp only [Act.put, List.setIfInBounds_toArray, List.set_cons_zero, List.set_cons_succ]
      rfl
    refine pure_ (i := 2) (N := some 29) (v := ?_) (a' := ?_) #[true, true, true, false, false, false, false, false, false, false] rfl rfl (by kernel_rfl) (fun _ _ _ h => h) (Or.inl ⟨by rfl, ?_⟩) ?_ ?_
    rotate_left
    · intro w'
      go_simp
      with_reducible rfl
    rotate_left
    · simp only [Act.put, List.setIfInBounds_toArray, List.set_cons_zero, List.set_cons_succ]
      rfl
    refine pure_ (i := 3) (N := some 30) (v := ?_) (a' := ?_) #[true, true, true, true, false, false, false, false, false, false] rfl rfl (by kernel_rfl) (fun _ _ _ h => h) (Or.inl ⟨by rfl, ?_⟩) ?_ ?_
    rotate_left
    · intro w'
      go_simp
      with_reducible rfl
    rotate_left
    · simp only [Act.put, List.setIfInBounds_toArray, List.set_cons_zero, List.set_cons_succ]
      rfl
    refine pure_ (i := 5) (N := some 32) (v := ?_) (a' := ?_) #[true, true, true, true, false, true, false, false, false, false] rfl rfl (by kernel_rfl) (fun _ _ _ h => h) (Or.inl ⟨by rfl, ?_⟩) ?_ ?_
    rotate_left
    · intro w'
      go_simp
      with_reducible rfl
    rotate_left
    · simp only [Act.put, List.setIfInBounds_toArray, List.set_cons_zero, List.set_cons_succ]
      rfl
    refine take_ (i := 4) (N := some 31) (v := ?_) (a' := ?_) #[true, true, true, true, true, true, false, false, false, false] rfl rfl (by kernel_rfl) (fun _ _ _ h => h) (Or.inl ⟨by rfl, ?_⟩) hHeld ?_ ?_
    rotate_left
    · rintro w' ⟨s0, s1⟩
      go_simp
      with_reducible rfl
    rotate_left
    · simp only [Act.put, List.setIfInBounds_toArray, List.set_cons_zero, List.set_cons_succ]
      rfl
    refine take_ (i := 6) (N := some 33) (v := ?_) (a' := ?_) #[true, true, true, true, true, true, true, false, false, false] rfl rfl (by kernel_rfl) (fun _ _ _ h => h) (Or.inl ⟨by rfl, ?_⟩) hHeld ?_ ?_
    rotate_left
    · rintro w' ⟨s0, s1⟩
      go_simp
      with_reducible rfl
    rotate_left
    · simp only [Act.put, List.setIfInBounds_toArray, List.set_cons_zero, List.set_cons_succ]
      rfl
    refine one_ (i := 7) (N := some 34) #[true, true, true, true, true, true, true, true, false, false] rfl rfl (by kernel_rfl) (by decide) (fun K hK => ?_)
    refine goes_ Tryd.func20 (by kernel_rfl) rfl #[.int .i64 f.f5] (by rfl) rfl rfl (by simp only [List.map_toArray, List.map_cons, List.map_nil]; rfl) ?_
    with_reducible refine (digits_s f.f5 HR.out _ HG1.out).mono ?_
    rintro e1 W1 ⟨rfl, hb⟩
    refine ⟨_, rfl, ?_⟩
    have HW1 := Aside0.mk (HW0.out.keep hb)
    have HB1 := Aside0.mk (HB0.out.trans (hb.mono HBW0.out))
    have HK1 := Aside0.mk (HK0.out.trans (KW.of_below hb))
    have HBW1 := Aside0.mk (Nat.le_trans HBW0.out hb.size)
    refine hK.out _ _ ⟨pw_cell_below hb hHeld.1, pw_cell_below hb hHeld.2⟩ (fun hHeld => ?_)
    clear hK K
    refine norm_ (a' := ?_) ?_ ?_
    rotate_left
    · show Act.put _ (some 34) _ = _
      simp only [Act.put, List.setIfInBounds_toArray, List.set_cons_zero, List.set_cons_succ]
      rfl
    refine one_ (i := 8) (N := some 35) #[true, true, true, true, true, true, true, true, true, false] rfl rfl (by kernel_rfl) (by decide) (fun K hK => ?_)
    refine value_ (w1 := ?_) (v := ?_) (by rfl) rfl ?_ ?_
    rotate_left 2
    · go_simp
      constructor
      · rfl
      · rfl
    refine hK.out _ _ ⟨pw_cell_below (below_alloc (Below.refl _ _) _) hHeld.1, pw_cell_below (below_alloc (Below.refl _ _) _) hHeld.2⟩ (fun hHeld => ?_)
    clear hK K
    refine norm_ (a' := ?_) ?_ ?_
    rotate_left
    · show Act.put _ (some 35) _ = _
      simp only [Act.put, List.setIfInBounds_toArray, List.set_cons_zero, List.set_cons_succ]
      rfl
    refine last_ (i := 9) (N := some 36) #[true, true, true, true, true, true, true, true, true, true] rfl rfl (by kernel_rfl) (by decide) (fun K hK => ?_)
    refine goes_ Tryd.func19 (by kernel_rfl) rfl #[.pointer (some ⟨b, 0, none⟩), .int .i64 n, .slice (some ⟨W1.heap.size, 0, none⟩) 6 6] (by rfl) rfl rfl (by simp only [List.map_toArray, List.map_cons, List.map_nil]; rfl) ?_
    with_reducible refine (line_m n [KB, ⟨#[32]⟩, f.f4, ⟨#[32, 61, 32]⟩, dig f.f5, ⟨#[59]⟩] 6 rfl (HW1.out.keep (below_alloc (Below.refl _ W1) _)) h0 h2 (blk_new W1 (.cells #[.string KB, .string (⟨#[32]⟩ : ByteArray), .string f.f4, .string (⟨#[32, 61, 32]⟩ : ByteArray), .string (dig f.f5), .string (⟨#[59]⟩ : ByteArray)] 9 (0, 0))) HLEN.out (Nat.le_of_ble_eq_true rfl) (Nat.le_trans HBW1.out (below_alloc (Below.refl _ W1) _).size)).mono ?_
    rintro e2 W2 ⟨rfl, h1, hb2, hk2⟩
    refine ⟨_, rfl, ?_⟩
    have HW2 := Aside0.mk h1
    have HB2 := Aside0.mk ((HB1.out.trans ((below_alloc (Below.refl _ W1) (.cells #[.string KB, .string (⟨#[32]⟩ : ByteArray), .string f.f4, .string (⟨#[32, 61, 32]⟩ : ByteArray), .string (dig f.f5), .string (⟨#[59]⟩ : ByteArray)] 9 (0, 0))).mono HBW1.out)).trans hb2)
    have HK2 := Aside0.mk ((HK1.out.trans (KW.of_below (below_alloc (Below.refl _ W1) (.cells #[.string KB, .string (⟨#[32]⟩ : ByteArray), .string f.f4, .string (⟨#[32, 61, 32]⟩ : ByteArray), .string (dig f.f5), .string (⟨#[59]⟩ : ByteArray)] 9 (0, 0))))).trans hk2)
    clear h1 hb2 hk2
    refine hK.out _ _ ?_
    clear hK K
    refine norm_ (a' := ?_) ?_ ?_
    rotate_left
    · show Act.put _ (some 36) _ = _
      simp only [Act.put, List.setIfInBounds_toArray, List.set_cons_zero, List.set_cons_succ]
      rfl
    refine done_ (by kernel_rfl) ?_
    go_wp2
    go_end0
    exact ⟨rfl, HW2.out, HB2.out, HK2.out⟩
end Go.Proofs.YtddpjjhekhompaaDoor.P
namespace Go.Proofs.YtddpjjhekhompaaDoor.P
open Go.RowKit Go.Proofs.YtddpjjhekhompaaDoorW.PrintWords Go.Proofs.YtddpjjhekhompaaDoorW.PrintLast Go.Proofs.YtddpjjhekhompaaDoorW.PrintMore
set_option linter.unusedVariables false
set_option linter.unusedSimpArgs false
def DM (W : World) (mb : Nat) (S : Int → Bool) (n : Nat) : Prop :=
  ∃ D : DataW Unit, W.ownsMap Tryd.prog 3 (plainElem Tryd.prog 4) mb n D ∧ ∀ o : Int, (Lit.int .i64 o).wf = true → D.atKey (.int .i64 o) (.lit (.bool false)) = .lit (.bool (S o))
theorem dm_und : Tryd.prog.underlying 97 = some (.map 3 4) := by kernel_rfl
theorem dm_int : Tryd.prog.underlying 3 = some (.int .i64) := by kernel_rfl
theorem dm_bool : Tryd.prog.underlying 4 = some .bool := by kernel_rfl
theorem dm_zero (w : World) : (zeroValue 4).run Tryd.prog w = .ok (.bool false) w := by kernel_rfl
theorem dm_key {o : Int} (h : (Lit.int .i64 o).wf = true) : keyOf Tryd.prog 3 (.int .i64 o) = some (.int .i64 o) := Maps.keyOf_int_mk dm_int h
theorem DM.made (W : World) : DM (W.alloc (.map #[] 0)) W.heap.size (fun _ => false) 0 := ⟨.map [], World.ownsMap_made _ _ _ _, fun _ _ => rfl⟩
theorem DM.lookup {W : World} {mb n : Nat} {S : Int → Bool} (h : DM W mb S n) {o : Int} (ho : (Lit.int .i64 o).wf = true) : (Instr.lookup 97 (.map (some mb)) (.int .i64 o) false).run Tryd.prog W = .ok (.bool (S o)) W := by
  obtain ⟨D, hD, hS⟩ := h
  obtain ⟨v, ps, hrun, hv⟩ := hD.lookup (Maps.int_keyed dm_int) dm_und (dm_zero W) (plainElem_bool dm_bool false) (dm_key ho)
  rw [hS o ho] at hv
  unfold plainElem at hv
  rw [dm_bool] at hv
  cases v <;> simp at hv
  obtain ⟨rfl, _⟩ := hv
  exact hrun
theorem DM.update {W : World} {mb n : Nat} {S : Int → Bool} (h : DM W mb S n) {o : Int} (ho : (Lit.int .i64 o).wf = true) (hn : n < maxLen) : ∃ W', (Instr.mapUpdate 97 (.map (some mb)) (.int .i64 o) (.bool true)).run Tryd.prog W = .ok () W' ∧ DM W' mb (fun x => x == o || S x) (n + 1) ∧ W.grownBy W' (some mb) := by
  obtain ⟨D, hD, hS⟩ := h
  obtain ⟨W', hrun, h1, h2⟩ := hD.update (Maps.int_keyed dm_int) dm_und hn (dm_key ho) (plainElem_bool dm_bool true)
  refine ⟨W', hrun, ⟨_, h1, fun x hx => ?_⟩, h2⟩
  by_cases e : x = o
  · subst e
    rw [Maps.atKey_put_same hD.isMap ((Maps.int_keyed dm_int).key (dm_key ho))]
    simp
  · rw [Maps.atKey_put_other (by intro h; injection h with _ h; exact e h), hS x hx]
    simp [e]
theorem DM.kw {W W' : World} {mb n : Nat} {S : Int → Bool} (h : DM W mb S n) (hk : KW W W') : DM W' mb S n := by
  obtain ⟨D, ⟨es, c, hb, r⟩, hS⟩ := h
  exact ⟨D, ⟨es, c, hk _ _ hb (fun cs m => ⟨nofun, nofun⟩), r⟩, hS⟩
theorem DM.mono {W : World} {mb n n' : Nat} {S S' : Int → Bool} (h : DM W mb S n) (hn : n ≤ n') (hS : ∀ o, S o = S' o) : DM W mb S' n' := by
  obtain ⟨D, hD, hS0⟩ := h
  exact ⟨D, hD.mono hn, fun o ho => by rw [hS0 o ho, hS o]⟩
theorem DM.is {W : World} {mb n : Nat} {S : Int → Bool} (h : DM W mb S n) : ∃ es c, W.heap[mb]? = some (.map es c) := by
  obtain ⟨D, ⟨es, c, hb, r⟩, hS⟩ := h
  exact ⟨es, c, hb⟩
theorem WB.grown {B b mb : Nat} {W W' : World} {l : List UInt8} {es : Array MapEntry} {c : Nat} (h : WB B W b l) (hm : W.heap[mb]? = some (.map es c)) (hg : W.grownBy W' (some mb)) : WB B W' b l := by
  have hne : ∀ (k : Nat) (cs : Array Value) (t : TypeId) (m : Nat × Nat), W.heap[k]? = some (.cells cs t m) → W'.heap[k]? = some (.cells cs t m) := by
    intro k cs t m hk
    refine (hg.block k (Array.getElem?_eq_some_iff.1 hk).1 ?_).trans hk
    intro e
    injection e with e
    subst e
    rw [hm] at hk
    cases hk
  rcases h with ⟨hB, v, h1, h2, h3⟩ | ⟨h1, h2, hB⟩
  · refine .inl ⟨hB, v, hne _ _ _ _ h1, own_move h2 (fun k hk => ?_), h3⟩
    rcases h2.2 with ⟨rfl, _⟩ | ⟨g, cap, cur, rfl, _, hgk, _⟩
    · cases hk
    · obtain rfl : g = k := by
        have : some g = some k := hk
        injection this
      exact (hne _ _ _ _ hgk).trans hgk.symm
  · exact .inr ⟨h1, hne _ _ _ _ h2, hB⟩
theorem low_grown {B mb : Nat} {W0 W W' : World} (h : Below B W0 W) (hB : B ≤ W.heap.size) (hm : B ≤ mb) (hg : W.grownBy W' (some mb)) : Below B W0 W' := h.grown hg hB (fun k hk => by injection hk with hk; omega)
def inO (m : MsgS) (o : Int) : Bool := decide (1 ≤ o) && decide (o ≤ m.f2.length)
def onePre (m : MsgS) (o : Int) : List ByteArray := [⟨#[111, 110, 101, 111, 102, 32]⟩, m.f2.getD (o - 1).toNat ⟨#[]⟩, ⟨#[32, 123]⟩]
def shutP : List ByteArray := [⟨#[125]⟩]
def grpL (o : Int) : List FieldS → List UInt8
  | [] => []
  | g :: r => (if g.f3 = o then lineL 2 (fieldParts g) else []) ++ grpL o r
def oneL (m : MsgS) (o : Int) : List UInt8 := lineL 1 (onePre m o) ++ grpL o m.f1 ++ lineL 1 shutP
def seenL (m : MsgS) (i : Nat) (o : Int) : Bool := inO m o && (m.f1.take i).any (fun g => g.f3 == o)
def pieceL (m : MsgS) (i : Nat) (f : FieldS) : List UInt8 := if inO m f.f3 = false then lineL 1 (fieldParts f) else if seenL m i f.f3 = true then [] else oneL m f.f3
def outL (m : MsgS) : Nat → List UInt8
  | 0 => []
  | i + 1 => outL m i ++ (match m.f1[i]? with | none => [] | some f => pieceL m i f)
def joinB (l : List ByteArray) : ByteArray := ⟨(Lib.join (l.map (·.data.toList)) [44, 32]).toArray⟩
def resPre (m : MsgS) : List ByteArray := [⟨#[114, 101, 115, 101, 114, 118, 101, 100, 32]⟩, joinB (m.f3.map dig), ⟨#[59]⟩]
def resL (m : MsgS) : List UInt8 := if m.f3 = [] then [] else lineL 1 (resPre m)
def msgPre (m : MsgS) : List ByteArray := [⟨#[109, 101, 115, 115, 97, 103, 101, 32]⟩, m.f0, ⟨#[32, 123]⟩]
def msgL (m : MsgS) : List UInt8 := lineL 0 (msgPre m) ++ outL m m.f1.length ++ resL m ++ lineL 0 shutP
theorem outL_step (m : MsgS) (i : Nat) (hi : i < m.f1.length) : outL m (i + 1) = outL m i ++ pieceL m i m.f1[i] := by
  show outL m i ++ (match m.f1[i]? with | none => [] | some f => pieceL m i f) = _
  rw [List.getElem?_eq_getElem hi]
theorem outL_le (m : MsgS) (i k : Nat) (h : i ≤ k) : (outL m i).length ≤ (outL m k).length := by
  induction h with
  | refl => exact Nat.le_refl _
  | step h ih => exact Nat.le_trans ih (by show _ ≤ (outL m _ ++ _).length; rw [List.length_append]; omega)
theorem seen_step (m : MsgS) (i : Nat) (hi : i < m.f1.length) (o : Int) : seenL m (i + 1) o = ((o == m.f1[i].f3 && inO m o) || seenL m i o) := by
  unfold seenL
  rw [show m.f1.take (i + 1) = m.f1.take i ++ [m.f1[i]] from List.take_succ_eq_append_getElem hi, List.any_append]
  simp only [List.any_cons, List.any_nil, Bool.or_false]
  by_cases e : o = m.f1[i].f3
  · subst e
    cases inO m m.f1[i].f3 <;> simp
  · have e1 : (m.f1[i].f3 == o) = false := by simp; exact fun h => e h.symm
    have e2 : (o == m.f1[i].f3) = false := by simp [e]
    rw [e1, e2]
    simp
theorem seen_new (m : MsgS) (i : Nat) (hi : i < m.f1.length) (ho : inO m m.f1[i].f3 = true) (o : Int) : (o == m.f1[i].f3 || seenL m i o) = seenL m (i + 1) o := by
  rw [seen_step m i hi]
  by_cases e : o = m.f1[i].f3
  · subst e
    simp [ho]
  · have e2 : (o == m.f1[i].f3) = false := by simp [e]
    simp [e2]
theorem seen_out (m : MsgS) (i : Nat) (hi : i < m.f1.length) (ho : inO m m.f1[i].f3 = false) (o : Int) : seenL m i o = seenL m (i + 1) o := by
  rw [seen_step m i hi]
  by_cases e : o = m.f1[i].f3
  · subst e
    simp [ho]
  · have e2 : (o == m.f1[i].f3) = false := by simp [e]
    simp [e2]
theorem seen_old (m : MsgS) (i : Nat) (hi : i < m.f1.length) (ho : seenL m i m.f1[i].f3 = true) (o : Int) : seenL m i o = seenL m (i + 1) o := by
  rw [seen_step m i hi]
  by_cases e : o = m.f1[i].f3
  · subst e
    simp [ho]
  · have e2 : (o == m.f1[i].f3) = false := by simp [e]
    simp [e2]
theorem grpL_append (o : Int) (a b : List FieldS) : grpL o (a ++ b) = grpL o a ++ grpL o b := by
  induction a with
  | nil => rfl
  | cons x r ih => show _ ++ grpL o (r ++ b) = _ ++ _ ++ _; rw [ih, List.append_assoc]
theorem grpL_step (o : Int) (l : List FieldS) (i : Nat) (hi : i < l.length) : grpL o (l.take (i + 1)) = grpL o (l.take i) ++ (if l[i].f3 = o then lineL 2 (fieldParts l[i]) else []) := by
  rw [show l.take (i + 1) = l.take i ++ [l[i]] from List.take_succ_eq_append_getElem hi, grpL_append]
  show _ ++ (_ ++ []) = _
  rw [List.append_nil]
theorem grpL_le (o : Int) (l : List FieldS) (i : Nat) : (grpL o (l.take i)).length ≤ (grpL o l).length := by
  have h : grpL o l = grpL o (l.take i) ++ grpL o (l.drop i) := by rw [← grpL_append, List.take_append_drop]
  rw [h, List.length_append]
  omega
def LineQ (W0 W : World) (b : Nat) (l : List UInt8) (e : Ending) (W' : World) : Prop := e = .returned (.tuple #[]) ∧ WB W0.heap.size W' b l ∧ Below W0.heap.size W0 W' ∧ KW W W'
theorem line_w {b k : Nat} {W0 W : World} {l : List UInt8} (n : Int) (ps : List ByteArray) (m : Nat) (hm : ps.length = m) (h : WB W0.heap.size W b l) (hl : Below W0.heap.size W0 W) (h0 : 0 ≤ n) (h2 : n ≤ 2) (hk : W.heap[k]? = some (.cells (strsA ps) 9 (0, 0))) (hlen : l.length + (lineL n.toNat ps).length ≤ 140737488355328) (hp : ps.length ≤ 100) :
    Calls Tryd.prog 19 #[.pointer (some ⟨b, 0, none⟩), .int .i64 n, .slice (some ⟨k, 0, none⟩) m m] W (LineQ W0 W b (l ++ lineL n.toNat ps)) := by
  refine (line_m n ps m hm h h0 h2 hk hlen hp hl.size).mono ?_
  rintro e W' ⟨h1, h2, h3, h4⟩
  exact ⟨h1, h2, hl.trans h3, h4⟩
theorem field_w {b : Nat} {W0 W : World} {l : List UInt8} (n : Int) (f : FieldS) (h : WB W0.heap.size W b l) (hG : GInv W0) (hl : Below W0.heap.size W0 W) (h0 : 0 ≤ n) (h2 : n ≤ 2) (hr : rngI f.f5) (hlen : l.length + (lineL n.toNat (fieldParts f)).length ≤ 140737488355328) :
    Calls Tryd.prog 37 #[.pointer (some ⟨b, 0, none⟩), .int .i64 n, .agg #[.string f.f0, .string f.f1, .bool f.f2, .int .i64 f.f3, .string f.f4, .int .i64 f.f5, .int .i64 f.f6]] W (LineQ W0 W b (l ++ lineL n.toNat (fieldParts f))) := by
  refine (wfield_s n f h (hG.below hl) h0 h2 hr hlen hl.size).mono ?_
  rintro e W' ⟨h1, h2, h3, h4⟩
  exact ⟨h1, h2, hl.trans h3, h4⟩
structure WM (W0 V : World) (b hm mb : Nat) (CM : Array Value) (l : List UInt8) (S : Int → Bool) (n : Nat) : Prop where
  wb : WB W0.heap.size V b l
  low : Below W0.heap.size W0 V
  box : V.heap[hm]? = some (.cells CM 40 (0, 0))
  map : DM V mb S n
  hmb : W0.heap.size ≤ mb
theorem notW_msg (cs : Array Value) : notW (.cells cs 40 (0, 0)) := by
  intro c m
  refine ⟨fun h => ?_, fun h => ?_⟩ <;> (injection h with _ h2; exact absurd h2 (by decide))
theorem notW_fld (cs : Array Value) : notW (.cells cs 42 (0, 0)) := by
  intro c m
  refine ⟨fun h => ?_, fun h => ?_⟩ <;> (injection h with _ h2; exact absurd h2 (by decide))
theorem WM.line {W0 V V' : World} {b hm mb n : Nat} {CM : Array Value} {l l' : List UInt8} {S : Int → Bool} (h : WM W0 V b hm mb CM l S n) (h1 : WB W0.heap.size V' b l') (h2 : Below W0.heap.size W0 V') (h3 : KW V V') : WM W0 V' b hm mb CM l' S n :=
  ⟨h1, h2, h3 _ _ h.box (notW_msg _), h.map.kw h3, h.hmb⟩
theorem WM.below {W0 V V' : World} {b hm mb n : Nat} {CM : Array Value} {l : List UInt8} {S : Int → Bool} (h : WM W0 V b hm mb CM l S n) (hb : Below V.heap.size V V') : WM W0 V' b hm mb CM l S n :=
  h.line (h.wb.keep hb) (h.low.trans (hb.mono h.low.size)) (KW.of_below hb)
theorem WM.alloc {W0 V : World} {b hm mb n : Nat} {CM : Array Value} {l : List UInt8} {S : Int → Bool} (h : WM W0 V b hm mb CM l S n) (o : Obj) : WM W0 (V.alloc o) b hm mb CM l S n := h.below (below_alloc (Below.refl _ _) o)
theorem WM.mono {W0 V : World} {b hm mb n n' : Nat} {CM : Array Value} {l l' : List UInt8} {S S' : Int → Bool} (h : WM W0 V b hm mb CM l S n) (hl : l = l') (hn : n ≤ n') (hS : ∀ o, S o = S' o) : WM W0 V b hm mb CM l' S' n' := ⟨hl ▸ h.wb, h.low, h.box, h.map.mono hn hS, h.hmb⟩
theorem WM.set_ {W0 V V' : World} {b hm mb n : Nat} {CM : Array Value} {l : List UInt8} {S S' : Int → Bool} (h : WM W0 V b hm mb CM l S n) (hS : DM V' mb S' (n + 1)) (hg : V.grownBy V' (some mb)) : WM W0 V' b hm mb CM l S' (n + 1) := by
  obtain ⟨es, c, hi⟩ := h.map.is
  refine ⟨h.wb.grown hi hg, low_grown h.low h.low.size h.hmb hg, ?_, hS, h.hmb⟩
  refine (hg.block hm (Array.getElem?_eq_some_iff.1 h.box).1 ?_).trans h.box
  intro e
  injection e with e
  have := h.box
  rw [e, hi] at this
  cases this
theorem blk_mapped {V V' : World} {mb k : Nat} {es : Array MapEntry} {c : Nat} {cs : Array Value} {t : TypeId} {m : Nat × Nat} (h : V.heap[k]? = some (.cells cs t m)) (hi : V.heap[mb]? = some (.map es c)) (hg : V.grownBy V' (some mb)) : V'.heap[k]? = some (.cells cs t m) := by
  refine (hg.block k (Array.getElem?_eq_some_iff.1 h).1 ?_).trans h
  intro e
  injection e with e
  rw [e, hi] at h
  cases h
theorem kw_mapped {A V V' : World} {mb : Nat} (h : KW A V) (hg : V.grownBy V' (some mb)) (hm : A.heap.size ≤ mb) : KW A V' := by
  intro k o hk hn
  have h1 := h k o hk hn
  refine (hg.block k (Array.getElem?_eq_some_iff.1 h1).1 ?_).trans h1
  intro e
  injection e with e
  have := (Array.getElem?_eq_some_iff.1 hk).1
  omega
theorem row_keep {V V' : World} {base n k : Nat} {v : Value} {xs : List Value} {o : Obj} (ho : V.ownsRow base 9 1 v n xs) (hg : V.grownBy V' v.ownBlock) (hk : V.heap[k]? = some o) (hne : ∀ cs m, o ≠ .cells cs 9 m) : V'.heap[k]? = some o := by
  refine (hg.block k (Array.getElem?_eq_some_iff.1 hk).1 ?_).trans hk
  intro e
  rcases ho.2 with ⟨rfl, _⟩ | ⟨g, cap, cur, rfl, _, hgk, _⟩
  · cases e
  · obtain rfl : k = g := by
      have : some k = some g := e
      injection this
    rw [hgk] at hk
    injection hk with hk
    exact hne cur (0, 0) hk.symm
theorem WM.row {W0 V V' : World} {b hm mb n : Nat} {CM : Array Value} {l : List UInt8} {S : Int → Bool} {base j : Nat} {v : Value} {xs : List Value} (h : WM W0 V b hm mb CM l S n) (ho : V.ownsRow base 9 1 v j xs) (hb : W0.heap.size ≤ base) (hg : V.grownBy V' v.ownBlock) : WM W0 V' b hm mb CM l S n := by
  refine ⟨?_, h.low.grown hg h.low.size (fun k hk => Nat.le_trans hb (own_base ho k hk)), ?_, ?_, h.hmb⟩
  · rcases h.wb with ⟨hB, u, h1, h2, h3⟩ | ⟨h1, h2, hB⟩
    · refine .inl ⟨hB, u, row_keep ho hg h1 (fun cs m h => by injection h with _ h2; exact absurd h2 (by decide)), own_move h2 (fun k hk => ?_), h3⟩
      rcases h2.2 with ⟨rfl, _⟩ | ⟨g, cap, cur, rfl, _, hgk, _⟩
      · cases hk
      · obtain rfl : g = k := by
          have : some g = some k := hk
          injection this
        exact (row_keep ho hg hgk (fun cs m h => by injection h with _ h2; exact absurd h2 (by decide))).trans hgk.symm
    · exact .inr ⟨h1, row_keep ho hg h2 (fun cs m h => by injection h with _ h2; exact absurd h2 (by decide)), hB⟩
  · exact row_keep ho hg h.box (fun cs m h => by injection h with _ h2; exact absurd h2 (by decide))
  · obtain ⟨D, ⟨es, c, hi, r⟩, hS⟩ := h.map
    exact ⟨D, ⟨es, c, row_keep ho hg hi (fun cs m => nofun), r⟩, hS⟩
theorem kw_row {A V V' : World} {base j : Nat} {v : Value} {xs : List Value} (h : KW A V) (ho : V.ownsRow base 9 1 v j xs) (hb : A.heap.size ≤ base) (hg : V.grownBy V' v.ownBlock) : KW A V' := by
  intro k o hk hn
  have h1 := h k o hk hn
  refine (hg.block k (Array.getElem?_eq_some_iff.1 h1).1 ?_).trans h1
  intro e
  have h2 := own_base ho k e.symm
  have := (Array.getElem?_eq_some_iff.1 hk).1
  omega
theorem dig_row (l : List Int) : l.map (fun n => Value.string (dig n)) = (l.map dig).map Value.string := by rw [List.map_map]; rfl
theorem dig_step (l : List Int) (j : Nat) (hj : j < l.length) : (l.take (j + 1)).map (fun n => Value.string (dig n)) = (l.take j).map (fun n => Value.string (dig n)) ++ [.string (dig l[j])] := by
  rw [show l.take (j + 1) = l.take j ++ [l[j]] from List.take_succ_eq_append_getElem hj, List.map_append]
  rfl
theorem res_len (m : MsgS) (h : m.f3 ≠ []) : (joinB (m.f3.map dig)).size ≤ (resL m).length := by
  unfold resL
  rw [if_neg h]
  unfold lineL flatB resPre
  have := bl_length (joinB (m.f3.map dig))
  simp only [List.map_cons, List.flatten_cons, List.length_append]
  omega
theorem join_row (xs : List ByteArray) (sep : ByteArray) (v : Value) (base : Nat) (W : World) (ho : W.ownsRow base 9 1 v xs.length (xs.map .string)) (hN : xs.length ≤ 140737488355328) (hlen : (Lib.join (xs.map (·.data.toList)) sep.data.toList).length ≤ 140737488355328) :
    Calls Tryd.prog 38 #[v, .string sep] W fun e w' => e = .returned (.string ⟨(Lib.join (xs.map (·.data.toList)) sep.data.toList).toArray⟩) ∧ Below W.heap.size W w' := by
  have hz : ∀ a c, xs.length = 0 → Calls Tryd.prog 38 #[.slice a 0 c, .string sep] W fun e w' => e = .returned (.string ⟨(Lib.join (xs.map (·.data.toList)) sep.data.toList).toArray⟩) ∧ Below W.heap.size W w' := by
    intro a c h0
    obtain rfl := List.length_eq_zero_iff.1 h0
    refine (Tryd.strings_Join_none a c sep W).mono ?_
    rintro e w' ⟨rfl, rfl⟩
    exact ⟨rfl, Below.refl _ _⟩
  have hc := fun (g : Nat) (hg : v.ownBlock = some g) => World.ownsRow.cells ho hg
  rcases ho.2 with ⟨rfl, h0⟩ | ⟨g, cap, cur, rfl, hg, hh, hle, hcap, hsz, htake⟩
  · exact hz none 0 h0
  · by_cases h0 : xs.length = 0
    · rw [h0]; exact hz _ _ h0
    · refine Tryd.strings_Join g 0 cap xs sep W ?_ (Array.getElem?_eq_some_iff.1 hh).1 hN hle hlen
      intro j x hj
      have := hc g rfl j (.string x) (by rw [List.getElem?_map, hj]; rfl)
      rw [add_plain] at this
      rw [Nat.zero_add]
      exact this
theorem join_dig (l : List Int) (v : Value) (base n : Nat) (W : World) (hn : n = l.length) (ho : W.ownsRow base 9 1 v n (l.map (fun n => Value.string (dig n)))) (hN : l.length ≤ 140737488355328) (hlen : (joinB (l.map dig)).size ≤ 140737488355328) :
    Calls Tryd.prog 38 #[v, .string (⟨#[44, 32]⟩ : ByteArray)] W fun e w' => e = .returned (.string (joinB (l.map dig))) ∧ Below W.heap.size W w' := by
  subst hn
  rw [dig_row] at ho
  refine join_row (l.map dig) ⟨#[44, 32]⟩ v base W (by rw [List.length_map]; exact ho) (by rw [List.length_map]; exact hN) ?_
  have h1 : (joinB (l.map dig)).size = (Lib.join ((l.map dig).map (·.data.toList)) [44, 32]).length := by
    show (Lib.join _ _).toArray.size = _
    rw [List.size_toArray]
  exact h1 ▸ hlen
end Go.Proofs.YtddpjjhekhompaaDoor.P
namespace Go.Proofs.YtddpjjhekhompaaDoor.P
open Go.RowKit Go.Proofs.YtddpjjhekhompaaDoorW.PrintWords Go.Proofs.YtddpjjhekhompaaDoorW.PrintLast Go.Proofs.YtddpjjhekhompaaDoorW.PrintMore
set_option linter.unusedVariables false
set_option linter.unusedSimpArgs false
theorem msg_len (m : MsgS) : (lineL 0 (msgPre m)).length + (outL m m.f1.length).length + (resL m).length + (lineL 0 shutP).length = (msgL m).length := by unfold msgL; simp only [List.length_append]
theorem str_info : (Tryd.prog.info? 9).map (fun i => (i.zero, i.size, i.bytes)) = some (some (.string ⟨#[]⟩), 1, 16) := by kernel_rfl
set_option maxHeartbeats 4000000 in
set_option maxRecDepth 100000 in
theorem wmsg_s {b : Nat} {W0 W : World} {l : List UInt8} (m : MsgS) {AF AO AR : Option Addr} {cF cO cR : Nat} (h : WB W0.heap.size W b l) (hG : GInv W0) (hl : Below W0.heap.size W0 W)
    (hF : Kd.C k42 W0 AF m.f1.length m.f1) (hO : Kd.string.C W0 AO m.f2.length m.f2) (hR : (Kd.int .i64).C W0 AR m.f3.length m.f3) (hcF : m.f1.length ≤ cF) (hcO : m.f2.length ≤ cO) (hcR : m.f3.length ≤ cR)
    (hr : ∀ f ∈ m.f1, rngI f.f5 ∧ rngI f.f3) (hn : ∀ n ∈ m.f3, rngI n) (hN : m.f1.length ≤ 1000000 ∧ m.f3.length ≤ 1000000) (hlen : l.length + (msgL m).length ≤ 140737488355328) :
    Calls Tryd.prog 18 #[.pointer (some ⟨b, 0, none⟩), .agg #[.string m.f0, .slice AF m.f1.length cF, .slice AO m.f2.length cO, .slice AR m.f3.length cR, .int .i64 m.f4]] W (LineQ W0 W b (l ++ msgL m)) := by
  have hmm := @run_makeMap Tryd.prog
  have HLEN := Aside0.mk hlen
  have HG := Aside0.mk hG
  have HF := Aside0.mk hF
  have HO := Aside0.mk hO
  have HR := Aside0.mk hR
  have HRG := Aside0.mk hr
  have HRN := Aside0.mk hn
  have HN := Aside0.mk hN
  have HML := Aside0.mk (msg_len m)
  have HLEN1 : Aside0 (l.length + (lineL (0 : Int).toNat (msgPre m)).length ≤ 140737488355328) := ⟨by have := HML.out; have h2 : (0 : Int).toNat = 0 := rfl; rw [h2]; omega⟩
  go_enter Tryd.func18, Tryd.ntmps18
  go_wp2_with fail
  have hn0 := blk_new W (.cells #[.string m.f0, .slice AF m.f1.length cF, .slice AO m.f2.length cO, .slice AR m.f3.length cR, .int .i64 m.f4] 40 (0, 0))
  have hb0 := below_alloc (Below.refl _ W) (.cells #[.string m.f0, .slice AF m.f1.length cF, .slice AO m.f2.length cO, .slice AR m.f3.length cR, .int .i64 m.f4] 40 (0, 0))
  have e0 : (W.alloc (.cells #[.string m.f0, .slice AF m.f1.length cF, .slice AO m.f2.length cO, .slice AR m.f3.length cR, .int .i64 m.f4] 40 (0, 0))).heap.size = W.heap.size + 1 := World.size_alloc _ _
  generalize W.alloc (.cells #[.string m.f0, .slice AF m.f1.length cF, .slice AO m.f2.length cO, .slice AR m.f3.length cR, .int .i64 m.f4] 40 (0, 0)) = V0 at *
  have HE0 := Aside0.mk e0
  clear e0
  have HW0 := Aside0.mk (h.keep hb0)
  have HL0 := Aside0.mk (hl.trans (hb0.mono hl.size))
  have HK0 := Aside0.mk (KW.of_below hb0)
  have HHM : Aside0 (W0.heap.size ≤ W.heap.size) := ⟨hl.size⟩
  have HX0 := Aside0.mk hn0
  clear hF hO hR hr hn hN hlen h hl hG hn0 hb0
  go_at_call 19
  refine (line_w 0 (msgPre m) 3 rfl (HW0.out.keep (below_alloc (Below.refl _ _) _)) (HL0.out.trans ((below_alloc (Below.refl _ _) _).mono HL0.out.size)) (Int.le_refl _) (by decide) (by have hq := blk_new V0 (.cells #[.string (⟨#[109, 101, 115, 115, 97, 103, 101, 32]⟩ : ByteArray), .string m.f0, .string (⟨#[32, 123]⟩ : ByteArray)] 9 (0, 0)); rw [HE0.out] at hq; exact hq) HLEN1.out (Nat.le_of_ble_eq_true rfl)).mono ?_
  rintro e1 W1 ⟨rfl, h1, h2, h3⟩
  have HW1 := Aside0.mk h1
  have HL1 := Aside0.mk h2
  have HK1 := Aside0.mk ((HK0.out.trans (KW.of_below (below_alloc (Below.refl _ _) _))).trans h3)
  have HX1 := Aside0.mk (h3 _ _ (blk_alloc HX0.out _) (notW_msg _))
  clear h1 h2 h3 HW0 HL0 HK0 HX0 HLEN1 HE0
  have y1 : ∀ o, (W1.alloc o).cell? ⟨W.heap.size, 1, none⟩ = some (.slice AF m.f1.length cF) := fun o => (blk_cell (blk_alloc HX1.out o) 1).trans rfl
  go_wp2_with fail
  have HM0 := Aside0.mk (DM.made W1)
  have HB0 := Aside0.mk (below_alloc (Below.refl _ W1) (.map #[] 0))
  generalize W1.alloc (.map #[] 0) = V1 at *
  have HWM : Aside0 (WM W0 V1 b W.heap.size W1.heap.size #[.string m.f0, .slice AF m.f1.length cF, .slice AO m.f2.length cO, .slice AR m.f3.length cR, .int .i64 m.f4] (l ++ lineL 0 (msgPre m)) (fun _ => false) 0) := ⟨⟨HW1.out.keep HB0.out, HL1.out.trans (HB0.out.mono HL1.out.size), blk_below HX1.out HB0.out, HM0.out, HL1.out.size⟩⟩
  have HK2 := Aside0.mk (HK1.out.trans (KW.of_below HB0.out))
  have HMB : Aside0 (W.heap.size ≤ W1.heap.size) := ⟨Nat.le_of_lt (blk_lt HX1.out)⟩
  generalize W1.heap.size = mb at *
  clear HW1 HL1 HK1 HX1 y1 HM0 HB0
  go_loopg [21] m.f1.length (fun n_ v V => ∃ i : Nat, v = .int .i64 i ∧ Aside0 (WM W0 V b W.heap.size mb #[.string m.f0, .slice AF m.f1.length cF, .slice AO m.f2.length cO, .slice AR m.f3.length cR, .int .i64 m.f4] (l ++ lineL 0 (msgPre m) ++ outL m i) (seenL m i) i) ∧ Aside0 (KW W V) ∧ Aside0 (i + n_ = m.f1.length))
  case atStart => exact ⟨0, rfl, ⟨HWM.out.mono (List.append_nil _).symm (Nat.le_refl _) (fun o => by simp [seenL])⟩, HK2, ⟨by omega⟩⟩
  case round =>
    clear HWM HK2
    obtain ⟨i, rfl, HWM, HK, HI⟩ := hrel
    have hin := HI.out
    have hN1 := HN.out.1
    by_cases hlt : i < m.f1.length
    · have d1 : decide ((i : Int) < (m.f1.length : Int)) = true := decide_eq_true (by omega)
      have d2 : decide (i < m.f1.length) = true := decide_eq_true hlt
      have d3 : (0 : Int) ≤ (i : Int) := by omega
      have d4 : (i : Int) < (m.f1.length : Int) := by omega
      have y2 : ∀ o, (wr.alloc o).cell? ⟨W.heap.size, 2, none⟩ = some (.slice AO m.f2.length cO) := fun o => (blk_cell (blk_alloc HWM.out.box o) 2).trans rfl
      obtain ⟨ad, had, z0, z1, z2, z3, z4, z5, z6⟩ := at_T42 (Kd.C_below HF.out HWM.out.low) i d3 d4
      obtain ⟨f, hfe⟩ : ∃ f, f = m.f1[i] := ⟨_, rfl⟩
      have hrd : rd_T42 m.f1 i = f := by unfold rd_T42; rw [hfe, List.getD_eq_getElem?_getD]; simp [hlt]
      rw [hrd] at z0 z1 z2 z3 z4 z5 z6
      rw [Int.toNat_natCast] at z0 z1 z2 z3 z4 z5 z6
      have HRF := Aside0.mk (HRG.out m.f1[i] (List.getElem_mem hlt))
      rw [← hfe] at HRF
      clear hrd
      subst had
      have HLT := Aside0.mk hlt
      have HFE := Aside0.mk hfe
      cases gk with
      | zero => omega
      | succ k1 =>
        by_cases ho : inO m f.f3 = false
        · have HP : Aside0 (outL m (i + 1) = outL m i ++ lineL 1 (fieldParts f)) := ⟨by rw [outL_step m i hlt, ← hfe]; unfold pieceL; rw [if_pos ho]⟩
          have HS : Aside0 (∀ o, seenL m i o = seenL m (i + 1) o) := ⟨seen_out m i hlt (hfe ▸ ho)⟩
          have HLF : Aside0 ((l ++ lineL 0 (msgPre m) ++ outL m i).length + (lineL (1 : Int).toNat (fieldParts f)).length ≤ 140737488355328) := ⟨by
            have q1 := outL_le m (i + 1) m.f1.length hlt
            rw [HP.out, List.length_append] at q1
            have q2 := HML.out
            have q3 := HLEN.out
            have q4 : (1 : Int).toNat = 1 := rfl
            rw [q4]
            simp only [List.length_append]
            omega⟩
          have HO2 := Aside0.mk ho
          clear hfe ho
          by_cases h1 : f.f3 < 1
          · have t1 : decide (f.f3 < 1) = true := decide_eq_true h1
            clear h1
            go_wp2_with fail
            have n0_ := Aside0.mk (HWM.out.alloc (.cells #[.string f.f0, .string f.f1, .bool f.f2, .int .i64 f.f3, .string f.f4, .int .i64 f.f5, .int .i64 f.f6] 42 (0, 0)))
            have n1_ := Aside0.mk (HK.out.trans (KW.of_below (below_alloc (Below.refl _ wr) (.cells #[.string f.f0, .string f.f1, .bool f.f2, .int .i64 f.f3, .string f.f4, .int .i64 f.f5, .int .i64 f.f6] 42 (0, 0)))))
            generalize wr.alloc (.cells #[.string f.f0, .string f.f1, .bool f.f2, .int .i64 f.f3, .string f.f4, .int .i64 f.f5, .int .i64 f.f6] 42 (0, 0)) = V2 at *
            clear HWM HK z0 z1 z2 z3 z4 z5 z6 y2
            go_at_call 37
            refine (field_w 1 f n0_.out.wb HG.out n0_.out.low (by decide) (by decide) HRF.out.1 (HLF.out)).mono ?_
            rintro e3 W3 ⟨rfl, g1, g2, g3⟩
            have n2_ : Aside0 (WM W0 W3 b W.heap.size mb #[.string m.f0, .slice (some ad) m.f1.length cF, .slice AO m.f2.length cO, .slice AR m.f3.length cR, .int .i64 m.f4] (l ++ lineL 0 (msgPre m) ++ outL m (i + 1)) (seenL m (i + 1)) (i + 1)) := ⟨(n0_.out.line g1 g2 g3).mono (by rw [HP.out, ← List.append_assoc]; rfl) (Nat.le_succ i) HS.out⟩
            have n3_ := Aside0.mk (n1_.out.trans g3)
            clear n0_ n1_ g1 g2 g3
            go_wp2_with fail
            go_roundg k1
            case measure => omega
            case rel => exact ⟨i + 1, by go_num, n2_, n3_, ⟨by omega⟩⟩
          · have t1 : decide (f.f3 < 1) = false := decide_eq_false h1
            have h2 : (m.f2.length : Int) < f.f3 := by
              have := HO2.out
              unfold inO at this
              simp at this
              omega
            have t2 : decide ((m.f2.length : Int) < f.f3) = true := decide_eq_true h2
            clear h1 h2
            go_wp2_with fail
            have n0_ := Aside0.mk (HWM.out.alloc (.cells #[.string f.f0, .string f.f1, .bool f.f2, .int .i64 f.f3, .string f.f4, .int .i64 f.f5, .int .i64 f.f6] 42 (0, 0)))
            have n1_ := Aside0.mk (HK.out.trans (KW.of_below (below_alloc (Below.refl _ wr) (.cells #[.string f.f0, .string f.f1, .bool f.f2, .int .i64 f.f3, .string f.f4, .int .i64 f.f5, .int .i64 f.f6] 42 (0, 0)))))
            generalize wr.alloc (.cells #[.string f.f0, .string f.f1, .bool f.f2, .int .i64 f.f3, .string f.f4, .int .i64 f.f5, .int .i64 f.f6] 42 (0, 0)) = V2 at *
            clear HWM HK z0 z1 z2 z3 z4 z5 z6 y2
            go_at_call 37
            refine (field_w 1 f n0_.out.wb HG.out n0_.out.low (by decide) (by decide) HRF.out.1 (HLF.out)).mono ?_
            rintro e3 W3 ⟨rfl, g1, g2, g3⟩
            have n2_ : Aside0 (WM W0 W3 b W.heap.size mb #[.string m.f0, .slice (some ad) m.f1.length cF, .slice AO m.f2.length cO, .slice AR m.f3.length cR, .int .i64 m.f4] (l ++ lineL 0 (msgPre m) ++ outL m (i + 1)) (seenL m (i + 1)) (i + 1)) := ⟨(n0_.out.line g1 g2 g3).mono (by rw [HP.out, ← List.append_assoc]; rfl) (Nat.le_succ i) HS.out⟩
            have n3_ := Aside0.mk (n1_.out.trans g3)
            clear n0_ n1_ g1 g2 g3
            go_wp2_with fail
            go_roundg k1
            case measure => omega
            case rel => exact ⟨i + 1, by go_num, n2_, n3_, ⟨by omega⟩⟩
        · have ho : inO m f.f3 = true := by cases h : inO m f.f3 with | true => rfl | false => exact absurd h ho
          have ho2 : 1 ≤ f.f3 ∧ f.f3 ≤ (m.f2.length : Int) := by
            unfold inO at ho
            simp at ho
            exact ho
          have t1 : decide (f.f3 < 1) = false := decide_eq_false (by omega)
          have t2 : decide ((m.f2.length : Int) < f.f3) = false := decide_eq_false (by omega)
          have HO2 := Aside0.mk ho
          have HO3 := Aside0.mk ho2
          have HWF : Aside0 ((Lit.int .i64 f.f3).wf = true) := ⟨by have hq := HRF.out.2; unfold rngI at hq; simp [Lit.wf, IntKind.min, IntKind.max, IntKind.signed, IntKind.bits]; omega⟩
          by_cases hs : seenL m i f.f3 = true
          · have HP : Aside0 (outL m (i + 1) = outL m i) := ⟨by rw [outL_step m i hlt, ← hfe]; unfold pieceL; rw [if_neg (by rw [ho]; exact Bool.noConfusion), if_pos hs, List.append_nil]⟩
            have HS : Aside0 (∀ o, seenL m i o = seenL m (i + 1) o) := ⟨seen_old m i hlt (hfe ▸ hs)⟩
            have hlk := (HWM.out.alloc (.cells #[.string f.f0, .string f.f1, .bool f.f2, .int .i64 f.f3, .string f.f4, .int .i64 f.f5, .int .i64 f.f6] 42 (0, 0))).map.lookup HWF.out
            rw [hs] at hlk
            clear hfe ho ho2 hs
            go_wp2_with fail
            have n0_ := Aside0.mk (HWM.out.alloc (.cells #[.string f.f0, .string f.f1, .bool f.f2, .int .i64 f.f3, .string f.f4, .int .i64 f.f5, .int .i64 f.f6] 42 (0, 0)))
            have n1_ := Aside0.mk (HK.out.trans (KW.of_below (below_alloc (Below.refl _ wr) (.cells #[.string f.f0, .string f.f1, .bool f.f2, .int .i64 f.f3, .string f.f4, .int .i64 f.f5, .int .i64 f.f6] 42 (0, 0)))))
            have n2_ : Aside0 (WM W0 _ b W.heap.size mb #[.string m.f0, .slice (some ad) m.f1.length cF, .slice AO m.f2.length cO, .slice AR m.f3.length cR, .int .i64 m.f4] (l ++ lineL 0 (msgPre m) ++ outL m (i + 1)) (seenL m (i + 1)) (i + 1)) := ⟨n0_.out.mono (by rw [HP.out]) (Nat.le_succ i) HS.out⟩
            go_roundg k1
            case measure => omega
            case rel => exact ⟨i + 1, by go_num, n2_, n1_, ⟨by omega⟩⟩
          · have hs : seenL m i f.f3 = false := by cases h : seenL m i f.f3 with | false => rfl | true => exact absurd h hs
            have HP : Aside0 (outL m (i + 1) = outL m i ++ oneL m f.f3) := ⟨by rw [outL_step m i hlt, ← hfe]; unfold pieceL; rw [if_neg (by rw [ho]; exact Bool.noConfusion), if_neg (by rw [hs]; exact Bool.noConfusion)]⟩
            have HS : Aside0 (∀ o, (o == f.f3 || seenL m i o) = seenL m (i + 1) o) := ⟨by rw [hfe]; exact seen_new m i hlt (hfe ▸ ho)⟩
            have hlk := (HWM.out.alloc (.cells #[.string f.f0, .string f.f1, .bool f.f2, .int .i64 f.f3, .string f.f4, .int .i64 f.f5, .int .i64 f.f6] 42 (0, 0))).map.lookup HWF.out
            rw [hs] at hlk
            obtain ⟨V3, hup, hD3, hg3⟩ := (HWM.out.alloc (.cells #[.string f.f0, .string f.f1, .bool f.f2, .int .i64 f.f3, .string f.f4, .int .i64 f.f5, .int .i64 f.f6] 42 (0, 0))).map.update HWF.out (by have := HN.out.1; unfold maxLen; omega)
            obtain ⟨es3, ce3, hi3⟩ := (HWM.out.alloc (.cells #[.string f.f0, .string f.f1, .bool f.f2, .int .i64 f.f3, .string f.f4, .int .i64 f.f5, .int .i64 f.f6] 42 (0, 0))).map.is
            have HX3 := Aside0.mk (blk_mapped (blk_new wr (.cells #[.string f.f0, .string f.f1, .bool f.f2, .int .i64 f.f3, .string f.f4, .int .i64 f.f5, .int .i64 f.f6] 42 (0, 0))) hi3 hg3)
            have HM3 := Aside0.mk ((HWM.out.alloc (.cells #[.string f.f0, .string f.f1, .bool f.f2, .int .i64 f.f3, .string f.f4, .int .i64 f.f5, .int .i64 f.f6] 42 (0, 0))).set_ hD3 hg3)
            have HK3 := Aside0.mk (kw_mapped (HK.out.trans (KW.of_below (below_alloc (Below.refl _ wr) (.cells #[.string f.f0, .string f.f1, .bool f.f2, .int .i64 f.f3, .string f.f4, .int .i64 f.f5, .int .i64 f.f6] 42 (0, 0))))) hg3 HMB.out)
            clear hD3 hi3 hg3
            have y3 : V3.cell? ⟨W.heap.size, 2, none⟩ = some (.slice AO m.f2.length cO) := (blk_cell HM3.out.box 2).trans rfl
            have y4 : V3.cell? ⟨wr.heap.size, 3, none⟩ = some (.int .i64 f.f3) := (blk_cell HX3.out 3).trans rfl
            obtain ⟨fa, fb, fc, fo, fn, fm, fz⟩ := f
            dsimp only at hlk hup y4 z0 z1 z2 z3 z4 z5 z6 t1 t2 ho2
            obtain ⟨q, hq⟩ : ∃ q : Nat, fo = (q : Int) + 1 := ⟨(fo - 1).toNat, by omega⟩
            subst hq
            have hqb : q < m.f2.length := by omega
            have ew : wrap64 (q : Int) = (q : Int) := by
              have hb := HRF.out.2
              unfold rngI at hb
              dsimp only at hb
              unfold wrap64
              omega
            obtain ⟨ad2, had2, z8⟩ := ReadsOf.at_ (Kd.reads_of_C (d := (⟨#[]⟩ : ByteArray)) (Kd.C_below HO.out HM3.out.low)) (q : Int) (by omega) (by omega)
            have hr8 : rdOf (⟨#[]⟩ : ByteArray) m.f2 (q : Int) = m.f2.getD ((q : Int) + 1 - 1).toNat ⟨#[]⟩ := by unfold rdOf; simp
            rw [hr8, Int.toNat_natCast] at z8
            clear hr8
            obtain ⟨nm, hnm⟩ : ∃ nm, m.f2.getD ((q : Int) + 1 - 1).toNat (⟨#[]⟩ : ByteArray) = nm := ⟨_, rfl⟩
            rw [hnm] at z8
            have HNM := Aside0.mk hnm
            have e1 : decide (q < m.f2.length) = true := decide_eq_true hqb
            have e2 : decide ((q : Int) < (m.f2.length : Int)) = true := decide_eq_true (by omega)
            have e3 : (0 : Int) ≤ (q : Int) := by omega
            have e4 : (q : Int) < (m.f2.length : Int) := by omega
            clear hnm
            subst had2
            clear hfe ho ho2 hs
            go_wp2_with fail
            have HQ : Aside0 ((l ++ lineL 0 (msgPre m) ++ outL m i).length + (lineL (1 : Int).toNat (onePre m ((q : Int) + 1))).length + (grpL ((q : Int) + 1) m.f1).length + (lineL (1 : Int).toNat shutP).length ≤ 140737488355328) := ⟨by
              have q1 := outL_le m (i + 1) m.f1.length HLT.out
              have q0 := HP.out
              try dsimp only at q0
              rw [q0] at q1
              unfold oneL at q1
              simp only [List.length_append] at q1
              have q2 := HML.out
              have q3 := HLEN.out
              have q4 : (1 : Int).toNat = 1 := rfl
              rw [q4]
              simp only [List.length_append]
              omega⟩
            clear HWM HK hlk hup z0 z1 z2 z3 z4 z5 z6 z8 y2 y3 y4 ew e1 e2 e3 e4 d1 d2 d3 d4 t1 t2 hqb
            generalize wr.heap.size = fbk at *
            go_at_call 19
            refine (line_w 1 (onePre m ((q : Int) + 1)) 3 rfl (HM3.out.wb.keep (below_alloc (Below.refl _ _) _)) (HM3.out.low.trans ((below_alloc (Below.refl _ _) _).mono HM3.out.low.size)) (by decide) (by decide) (by have hq := blk_new V3 (.cells #[.string (⟨#[111, 110, 101, 111, 102, 32]⟩ : ByteArray), .string nm, .string (⟨#[32, 123]⟩ : ByteArray)] 9 (0, 0)); unfold onePre; rw [HNM.out]; exact hq) (by have := HQ.out; omega) (Nat.le_of_ble_eq_true rfl)).mono ?_
            rintro e4 W4 ⟨rfl, g1, g2, g3⟩
            have HM4 := Aside0.mk ((HM3.out.alloc (.cells #[.string (⟨#[111, 110, 101, 111, 102, 32]⟩ : ByteArray), .string nm, .string (⟨#[32, 123]⟩ : ByteArray)] 9 (0, 0))).line g1 g2 g3)
            have HK4 := Aside0.mk ((HK3.out.trans (KW.of_below (below_alloc (Below.refl _ V3) (.cells #[.string (⟨#[111, 110, 101, 111, 102, 32]⟩ : ByteArray), .string nm, .string (⟨#[32, 123]⟩ : ByteArray)] 9 (0, 0))))).trans g3)
            have HX4 := Aside0.mk (g3 _ _ (blk_alloc HX3.out (.cells #[.string (⟨#[111, 110, 101, 111, 102, 32]⟩ : ByteArray), .string nm, .string (⟨#[32, 123]⟩ : ByteArray)] 9 (0, 0))) (notW_fld _))
            clear HM3 HK3 HX3 g1 g2 g3 HNM
            have y5 : W4.cell? ⟨W.heap.size, 1, none⟩ = some (.slice (some ad) m.f1.length cF) := (blk_cell HM4.out.box 1).trans rfl
            go_wp2_with fail
            clear y5
            go_loopg [62] m.f1.length (fun n_ v V => ∃ j : Nat, v = .int .i64 j ∧ Aside0 (WM W0 V b W.heap.size mb #[.string m.f0, .slice (some ad) m.f1.length cF, .slice (some ad2) m.f2.length cO, .slice AR m.f3.length cR, .int .i64 m.f4] (l ++ lineL 0 (msgPre m) ++ outL m i ++ lineL (1 : Int).toNat (onePre m ((q : Int) + 1)) ++ grpL ((q : Int) + 1) (m.f1.take j)) (fun x => x == (q : Int) + 1 || seenL m i x) (i + 1)) ∧ Aside0 (KW W V) ∧ Aside0 (V.heap[fbk]? = some (.cells #[.string fa, .string fb, .bool fc, .int .i64 ((q : Int) + 1), .string fn, .int .i64 fm, .int .i64 fz] 42 (0, 0))) ∧ Aside0 (j + n_ = m.f1.length))
            case atStart => exact ⟨0, rfl, ⟨HM4.out.mono (List.append_nil _).symm (Nat.le_refl _) (fun _ => rfl)⟩, HK4, HX4, ⟨by omega⟩⟩
            case round =>
              clear HM4 HK4 HX4
              obtain ⟨j, rfl, HWM, HK, HX, HJ⟩ := hrel
              have hjn := HJ.out
              by_cases hlj : j < m.f1.length
              · have d1 : decide ((j : Int) < (m.f1.length : Int)) = true := decide_eq_true (by omega)
                have d2 : decide (j < m.f1.length) = true := decide_eq_true hlj
                have d3 : (0 : Int) ≤ (j : Int) := by omega
                have d4 : (j : Int) < (m.f1.length : Int) := by omega
                have y2 : ∀ o, (wr.alloc o).cell? ⟨fbk, 3, none⟩ = some (.int .i64 ((q : Int) + 1)) := fun o => (blk_cell (blk_alloc HX.out o) 3).trans rfl
                obtain ⟨ad', had', z0, z1, z2, z3, z4, z5, z6⟩ := at_T42 (Kd.C_below HF.out HWM.out.low) j d3 d4
                injection had' with had'
                subst had'
                obtain ⟨g, hge⟩ : ∃ g, g = m.f1[j] := ⟨_, rfl⟩
                have hrd : rd_T42 m.f1 j = g := by unfold rd_T42; rw [hge, List.getD_eq_getElem?_getD]; simp [hlj]
                rw [hrd] at z0 z1 z2 z3 z4 z5 z6
                rw [Int.toNat_natCast] at z0 z1 z2 z3 z4 z5 z6
                have HRG2 := Aside0.mk (HRG.out m.f1[j] (List.getElem_mem hlj))
                rw [← hge] at HRG2
                have hst := grpL_step ((q : Int) + 1) m.f1 j hlj
                rw [← hge] at hst
                clear hrd hge
                cases gk with
                | zero => omega
                | succ k2 =>
                  by_cases he : g.f3 = (q : Int) + 1
                  · have t1 : decide (g.f3 = (q : Int) + 1) = true := decide_eq_true he
                    have t2 : (g.f3 == (q : Int) + 1) = true := by rw [he]; simp
                    rw [if_pos he] at hst
                    have HST := Aside0.mk hst
                    have HQ2 : Aside0 ((l ++ lineL 0 (msgPre m) ++ outL m i ++ lineL (1 : Int).toNat (onePre m ((q : Int) + 1)) ++ grpL ((q : Int) + 1) (m.f1.take j)).length + (lineL (2 : Int).toNat (fieldParts g)).length ≤ 140737488355328) := ⟨by
                      have q1 := grpL_le ((q : Int) + 1) m.f1 (j + 1)
                      rw [hst, List.length_append] at q1
                      have := HQ.out
                      have q4 : (2 : Int).toNat = 2 := rfl
                      rw [q4]
                      simp only [List.length_append] at this ⊢
                      omega⟩
                    have HE := Aside0.mk he
                    clear hst he
                    go_wp2_with fail
                    have n0_ := Aside0.mk (HWM.out.alloc (.cells #[.string g.f0, .string g.f1, .bool g.f2, .int .i64 g.f3, .string g.f4, .int .i64 g.f5, .int .i64 g.f6] 42 (0, 0)))
                    have n1_ := Aside0.mk (HK.out.trans (KW.of_below (below_alloc (Below.refl _ wr) (.cells #[.string g.f0, .string g.f1, .bool g.f2, .int .i64 g.f3, .string g.f4, .int .i64 g.f5, .int .i64 g.f6] 42 (0, 0)))))
                    have n5_ := Aside0.mk (blk_alloc HX.out (.cells #[.string g.f0, .string g.f1, .bool g.f2, .int .i64 g.f3, .string g.f4, .int .i64 g.f5, .int .i64 g.f6] 42 (0, 0)))
                    generalize wr.alloc (.cells #[.string g.f0, .string g.f1, .bool g.f2, .int .i64 g.f3, .string g.f4, .int .i64 g.f5, .int .i64 g.f6] 42 (0, 0)) = V2 at *
                    clear HWM HK HX z0 z1 z2 z3 z4 z5 z6 y2
                    go_at_call 37
                    refine (field_w 2 g n0_.out.wb HG.out n0_.out.low (by decide) (by decide) HRG2.out.1 HQ2.out).mono ?_
                    rintro e3 W3 ⟨rfl, g1, g2, g3⟩
                    have n2_ : Aside0 (WM W0 W3 b W.heap.size mb #[.string m.f0, .slice (some ad) m.f1.length cF, .slice (some ad2) m.f2.length cO, .slice AR m.f3.length cR, .int .i64 m.f4] (l ++ lineL 0 (msgPre m) ++ outL m i ++ lineL (1 : Int).toNat (onePre m ((q : Int) + 1)) ++ grpL ((q : Int) + 1) (m.f1.take (j + 1))) (fun x => x == (q : Int) + 1 || seenL m i x) (i + 1)) := ⟨(n0_.out.line g1 g2 g3).mono (by rw [HST.out, ← List.append_assoc]; rfl) (Nat.le_refl _) (fun _ => rfl)⟩
                    have n3_ := Aside0.mk (n1_.out.trans g3)
                    have n4_ := Aside0.mk (g3 _ _ n5_.out (notW_fld _))
                    clear n0_ n1_ n5_ g1 g2 g3
                    go_wp2_with fail
                    go_roundg k2
                    case measure => omega
                    case rel => exact ⟨j + 1, by go_num, n2_, n3_, n4_, ⟨by omega⟩⟩
                  · have t1 : decide (g.f3 = (q : Int) + 1) = false := decide_eq_false he
                    have t2 : (g.f3 == (q : Int) + 1) = false := by simp [he]
                    rw [if_neg he, List.append_nil] at hst
                    have HST := Aside0.mk hst
                    clear hst he
                    go_wp2_with fail
                    have n2_ : Aside0 (WM W0 (wr.alloc (.cells #[.string g.f0, .string g.f1, .bool g.f2, .int .i64 g.f3, .string g.f4, .int .i64 g.f5, .int .i64 g.f6] 42 (0, 0))) b W.heap.size mb #[.string m.f0, .slice (some ad) m.f1.length cF, .slice (some ad2) m.f2.length cO, .slice AR m.f3.length cR, .int .i64 m.f4] (l ++ lineL 0 (msgPre m) ++ outL m i ++ lineL (1 : Int).toNat (onePre m ((q : Int) + 1)) ++ grpL ((q : Int) + 1) (m.f1.take (j + 1))) (fun x => x == (q : Int) + 1 || seenL m i x) (i + 1)) := ⟨(HWM.out.alloc _).mono (by rw [HST.out]) (Nat.le_refl _) (fun _ => rfl)⟩
                    have n3_ := Aside0.mk (HK.out.trans (KW.of_below (below_alloc (Below.refl _ wr) (.cells #[.string g.f0, .string g.f1, .bool g.f2, .int .i64 g.f3, .string g.f4, .int .i64 g.f5, .int .i64 g.f6] 42 (0, 0)))))
                    have n4_ := Aside0.mk (blk_alloc HX.out (.cells #[.string g.f0, .string g.f1, .bool g.f2, .int .i64 g.f3, .string g.f4, .int .i64 g.f5, .int .i64 g.f6] 42 (0, 0)))
                    go_roundg k2
                    case measure => omega
                    case rel => exact ⟨j + 1, by go_num, n2_, n3_, n4_, ⟨by omega⟩⟩
              · have d1 : decide ((j : Int) < (m.f1.length : Int)) = false := decide_eq_false (by omega)
                have d2 : decide (j < m.f1.length) = false := decide_eq_false hlj
                have HQ2 : Aside0 ((l ++ lineL 0 (msgPre m) ++ outL m i ++ lineL (1 : Int).toNat (onePre m ((q : Int) + 1)) ++ grpL ((q : Int) + 1) (m.f1.take j)).length + (lineL (1 : Int).toNat shutP).length ≤ 140737488355328) := ⟨by
                  have q1 := grpL_le ((q : Int) + 1) m.f1 j
                  have := HQ.out
                  simp only [List.length_append] at this ⊢
                  omega⟩
                have HEQ : Aside0 (l ++ lineL 0 (msgPre m) ++ outL m i ++ lineL (1 : Int).toNat (onePre m ((q : Int) + 1)) ++ grpL ((q : Int) + 1) (m.f1.take j) ++ lineL (1 : Int).toNat shutP = l ++ lineL 0 (msgPre m) ++ outL m (i + 1)) := ⟨by
                  have q0 := HP.out
                  try dsimp only at q0
                  rw [q0, List.take_of_length_le (by omega)]
                  unfold oneL
                  simp only [List.append_assoc]
                  rfl⟩
                clear hlj
                go_wp2_with fail
                go_at_call 19
                refine (line_w 1 shutP 1 rfl (HWM.out.wb.keep (below_alloc (Below.refl _ _) _)) (HWM.out.low.trans ((below_alloc (Below.refl _ _) _).mono HWM.out.low.size)) (by decide) (by decide) (by exact blk_new wr (.cells #[.string (⟨#[125]⟩ : ByteArray)] 9 (0, 0))) HQ2.out (Nat.le_of_ble_eq_true rfl)).mono ?_
                rintro e5 W5 ⟨rfl, g1, g2, g3⟩
                have n2_ : Aside0 (WM W0 W5 b W.heap.size mb #[.string m.f0, .slice (some ad) m.f1.length cF, .slice (some ad2) m.f2.length cO, .slice AR m.f3.length cR, .int .i64 m.f4] (l ++ lineL 0 (msgPre m) ++ outL m (i + 1)) (seenL m (i + 1)) (i + 1)) := ⟨((HWM.out.alloc (.cells #[.string (⟨#[125]⟩ : ByteArray)] 9 (0, 0))).line g1 g2 g3).mono HEQ.out (Nat.le_refl _) HS.out⟩
                have n3_ := Aside0.mk ((HK.out.trans (KW.of_below (below_alloc (Below.refl _ wr) (.cells #[.string (⟨#[125]⟩ : ByteArray)] 9 (0, 0))))).trans g3)
                clear HWM HK HX g1 g2 g3
                go_wp2_with fail
                go_roundg k1
                case measure => omega
                case rel => exact ⟨i + 1, by go_num, n2_, n3_, ⟨by omega⟩⟩
    · have d1 : decide ((i : Int) < (m.f1.length : Int)) = false := decide_eq_false (by omega)
      have d2 : decide (i < m.f1.length) = false := decide_eq_false hlt
      have hi : i = m.f1.length := by omega
      have y3 : wr.cell? ⟨W.heap.size, 3, none⟩ = some (.slice AR m.f3.length cR) := (blk_cell HWM.out.box 3).trans rfl
      have HRB : Aside0 (W.heap.size ≤ wr.heap.size) := ⟨Nat.le_of_lt (blk_lt HWM.out.box)⟩
      have hwm := HWM.out
      rw [hi] at hwm
      have HWM2 := Aside0.mk hwm
      clear HWM hwm hlt hi hin
      generalize seenL m m.f1.length = SS at *
      clear HI
      go_wp2_with fail
      have HO0 := Aside0.mk (own_nil wr wr.heap.size 9 1)
      have HRS : Aside0 (wr.heap.size ≤ wr.heap.size) := ⟨Nat.le_refl _⟩
      generalize hRB : wr.heap.size = RB at HO0 HRB HRS ⊢
      replace HRS : Aside0 (RB ≤ wr.heap.size) := ⟨by rw [hRB]; exact Nat.le_refl _⟩
      clear hRB
      have hn2 := HN.out.2
      obtain ⟨i0, hif, hz0, hz1, hz2⟩ := info_parts str_info
      go_loopg [9, 82] m.f3.length (fun n_ v9 v V => ∃ j : Nat, v = .int .i64 j ∧ Aside0 (WM W0 V b W.heap.size mb #[.string m.f0, .slice AF m.f1.length cF, .slice AO m.f2.length cO, .slice AR m.f3.length cR, .int .i64 m.f4] (l ++ lineL 0 (msgPre m) ++ outL m m.f1.length) SS m.f1.length) ∧ Aside0 (KW W V) ∧ Aside0 (V.ownsRow RB 9 1 v9 j ((m.f3.take j).map (fun n => Value.string (dig n)))) ∧ Aside0 (RB ≤ V.heap.size) ∧ Aside0 (j + n_ = m.f3.length))
      case atStart => exact ⟨0, rfl, HWM2, HK, HO0, HRS, ⟨by omega⟩⟩
      case round =>
        clear HWM2 HK HO0 HRS
        obtain ⟨j, rfl, HWM, HK, HOW, HSZ, HJ⟩ := hrel
        have hjn := HJ.out
        by_cases hlj : j < m.f3.length
        · have d1 : decide ((j : Int) < (m.f3.length : Int)) = true := decide_eq_true (by omega)
          have d2 : decide (j < m.f3.length) = true := decide_eq_true hlj
          have d3 : (0 : Int) ≤ (j : Int) := by omega
          have d4 : (j : Int) < (m.f3.length : Int) := by omega
          obtain ⟨ad3, had3, z0⟩ := ReadsOf.at_ (Kd.reads_of_C (d := (0 : Int)) (Kd.C_below HR.out HWM.out.low)) (j : Int) (by omega) (by omega)
          obtain ⟨x, hx⟩ : ∃ x, x = m.f3[j] := ⟨_, rfl⟩
          have hr8 : rdOf (0 : Int) m.f3 (j : Int) = x := by rw [hx]; unfold rdOf; rw [List.getD_eq_getElem?_getD]; simp [hlj]
          rw [hr8, Int.toNat_natCast] at z0
          have HXR := Aside0.mk (HRN.out m.f3[j] (List.getElem_mem hlj))
          rw [← hx] at HXR
          have hst := dig_step m.f3 j hlj
          rw [← hx] at hst
          have HST := Aside0.mk hst
          clear hst hr8 hx
          subst had3
          cases gk with
          | zero => omega
          | succ k1 =>
            go_wp2_with fail
            go_at_call 20
            refine (digits_s x HXR.out _ (HG.out.below HWM.out.low)).mono ?_
            rintro e5 W5 ⟨rfl, hb5⟩
            have n0_ := Aside0.mk (HWM.out.below hb5)
            have n1_ := Aside0.mk (HK.out.trans (KW.of_below hb5))
            have n2_ := Aside0.mk (pw_own_below HOW.out hb5)
            have n3_ := Aside0.mk (Nat.le_trans HSZ.out hb5.size)
            clear HWM HK HOW HSZ hb5 z0
            go_wp2_with (at_builtin; refine wpList_append_own _ rfl _ _ 37 rfl RB 9 i0 (.string ⟨#[]⟩) 1 16 Tryd.underlying37 hif hz0 hz1 hz2 rfl (by decide) _ _ _ rfl (n2_.out.alloc _) ⟨W5.heap.size, 0, none⟩ 1 1 [.string (dig x)] rfl rfl (cell_one_new _ _ _) (by simp [Value.oneCell']) (by unfold maxLen; omega) (by omega) (Nat.le_trans n3_.out (below_alloc (Below.refl _ W5) _).size) ?_; intro v' w1 hown1 hg1 _)
            have m0_ := Aside0.mk ((n0_.out.alloc (.cells #[.string (dig x)] 9 (0, 0))).row (n2_.out.alloc _) (Nat.le_trans HHM.out HRB.out) hg1)
            have m1_ := Aside0.mk (kw_row (n1_.out.trans (KW.of_below (below_alloc (Below.refl _ W5) (.cells #[.string (dig x)] 9 (0, 0))))) (n2_.out.alloc _) HRB.out hg1)
            rw [← HST.out] at hown1
            have m2_ := Aside0.mk hown1
            have m3_ := Aside0.mk (Nat.le_trans (Nat.le_trans n3_.out (below_alloc (Below.refl _ W5) (.cells #[.string (dig x)] 9 (0, 0))).size) hg1.size)
            clear n0_ n1_ n2_ n3_ hown1 hg1 HST
            go_roundg k1
            case measure => omega
            case rel => exact ⟨j + 1, by go_num, m0_, m1_, m2_, m3_, ⟨by omega⟩⟩
        · have d1 : decide ((j : Int) < (m.f3.length : Int)) = false := decide_eq_false (by omega)
          have d2 : decide (j < m.f3.length) = false := decide_eq_false hlj
          have hj : j = m.f3.length := by omega
          obtain ⟨A9, c9, hv9⟩ := own_slice HOW.out
          have how := HOW.out
          rw [List.take_of_length_le (by omega), hv9] at how
          subst hv9
          have HOW2 := Aside0.mk how
          clear how
          have hj3 := hj
          clear HOW hlj hjn HJ hj
          by_cases h0 : m.f3 = []
          · have hj0 : j = 0 := by rw [hj3, h0]; rfl
            have t1 : decide ((0 : Int) < (j : Int)) = false := decide_eq_false (by omega)
            have t2 : decide (0 < j) = false := decide_eq_false (by omega)
            have HEQ : Aside0 (l ++ lineL 0 (msgPre m) ++ outL m m.f1.length ++ lineL (0 : Int).toNat shutP = l ++ msgL m) := ⟨by
              unfold msgL resL
              rw [if_pos h0, List.append_nil]
              simp only [List.append_assoc]
              rfl⟩
            have HQ2 : Aside0 ((l ++ lineL 0 (msgPre m) ++ outL m m.f1.length).length + (lineL (0 : Int).toNat shutP).length ≤ 140737488355328) := ⟨by
              have q2 := HML.out
              have q3 := HLEN.out
              have q4 : (0 : Int).toNat = 0 := rfl
              rw [q4]
              simp only [List.length_append]
              omega⟩
            clear h0 hj0 hj3 HOW2
            go_wp2_with fail
            go_at_call 19
            refine (line_w 0 shutP 1 rfl (HWM.out.wb.keep (below_alloc (Below.refl _ _) _)) (HWM.out.low.trans ((below_alloc (Below.refl _ _) _).mono HWM.out.low.size)) (by decide) (by decide) (by exact blk_new wr (.cells #[.string (⟨#[125]⟩ : ByteArray)] 9 (0, 0))) HQ2.out (Nat.le_of_ble_eq_true rfl)).mono ?_
            rintro e5 W5 ⟨rfl, g1, g2, g3⟩
            rw [HEQ.out] at g1
            have n1_ := Aside0.mk g1
            have n2_ := Aside0.mk g2
            have n3_ := Aside0.mk ((HK.out.trans (KW.of_below (below_alloc (Below.refl _ wr) (.cells #[.string (⟨#[125]⟩ : ByteArray)] 9 (0, 0))))).trans g3)
            clear HWM HK g1 g2 g3
            go_wp2
            go_end0
            exact ⟨rfl, n1_.out, n2_.out, n3_.out⟩
          · have hj0 : 0 < j := by
              rw [hj3]
              exact List.length_pos_iff.2 h0
            have t1 : decide ((0 : Int) < (j : Int)) = true := decide_eq_true (by omega)
            have t2 : decide (0 < j) = true := decide_eq_true hj0
            have HQ1 : Aside0 ((l ++ lineL 0 (msgPre m) ++ outL m m.f1.length).length + (lineL (1 : Int).toNat (resPre m)).length + (lineL (0 : Int).toNat shutP).length ≤ 140737488355328) := ⟨by
              have q2 := HML.out
              have q3 := HLEN.out
              unfold resL at q2
              rw [if_neg h0] at q2
              have q4 : (0 : Int).toNat = 0 := rfl
              have q5 : (1 : Int).toNat = 1 := rfl
              rw [q4, q5]
              simp only [List.length_append]
              omega⟩
            have HEQ : Aside0 (l ++ lineL 0 (msgPre m) ++ outL m m.f1.length ++ lineL (1 : Int).toNat (resPre m) ++ lineL (0 : Int).toNat shutP = l ++ msgL m) := ⟨by
              unfold msgL resL
              rw [if_neg h0]
              simp only [List.append_assoc]
              rfl⟩
            have HJL : Aside0 ((joinB (m.f3.map dig)).size ≤ 140737488355328) := ⟨by
              have q1 := res_len m h0
              have q2 := HML.out
              have q3 := HLEN.out
              omega⟩
            have HJE := Aside0.mk hj3
            clear h0 hj0 hj3
            go_wp2_with fail
            go_at_call 38
            refine (join_dig m.f3 _ RB j _ HJE.out HOW2.out (by omega) HJL.out).mono ?_
            rintro e5 W5 ⟨rfl, hb5⟩
            have n0_ := Aside0.mk (HWM.out.below hb5)
            have n1_ := Aside0.mk (HK.out.trans (KW.of_below hb5))
            clear HWM HK HOW2 hb5
            obtain ⟨JB, hJB⟩ : ∃ JB, joinB (m.f3.map dig) = JB := ⟨_, rfl⟩
            rw [hJB]
            have HJB := Aside0.mk hJB
            clear hJB
            go_wp2_with fail
            go_at_call 19
            refine (line_w 1 (resPre m) 3 rfl (n0_.out.wb.keep (below_alloc (Below.refl _ _) _)) (n0_.out.low.trans ((below_alloc (Below.refl _ _) _).mono n0_.out.low.size)) (by decide) (by decide) (by have hq := blk_new W5 (.cells #[.string (⟨#[114, 101, 115, 101, 114, 118, 101, 100, 32]⟩ : ByteArray), .string JB, .string (⟨#[59]⟩ : ByteArray)] 9 (0, 0)); unfold resPre; rw [HJB.out]; exact hq) (by have := HQ1.out; omega) (Nat.le_of_ble_eq_true rfl)).mono ?_
            rintro e6 W6 ⟨rfl, g1, g2, g3⟩
            have m0_ := Aside0.mk ((n0_.out.alloc (.cells #[.string (⟨#[114, 101, 115, 101, 114, 118, 101, 100, 32]⟩ : ByteArray), .string JB, .string (⟨#[59]⟩ : ByteArray)] 9 (0, 0))).line g1 g2 g3)
            have m1_ := Aside0.mk ((n1_.out.trans (KW.of_below (below_alloc (Below.refl _ W5) (.cells #[.string (⟨#[114, 101, 115, 101, 114, 118, 101, 100, 32]⟩ : ByteArray), .string JB, .string (⟨#[59]⟩ : ByteArray)] 9 (0, 0))))).trans g3)
            clear n0_ n1_ g1 g2 g3
            go_wp2_with fail
            go_at_call 19
            refine (line_w 0 shutP 1 rfl (m0_.out.wb.keep (below_alloc (Below.refl _ _) _)) (m0_.out.low.trans ((below_alloc (Below.refl _ _) _).mono m0_.out.low.size)) (by decide) (by decide) (by exact blk_new W6 (.cells #[.string (⟨#[125]⟩ : ByteArray)] 9 (0, 0))) (by have := HQ1.out; rw [List.length_append]; omega) (Nat.le_of_ble_eq_true rfl)).mono ?_
            rintro e7 W7 ⟨rfl, g1, g2, g3⟩
            rw [HEQ.out] at g1
            have k1_ := Aside0.mk g1
            have k2_ := Aside0.mk g2
            have k3_ := Aside0.mk ((m1_.out.trans (KW.of_below (below_alloc (Below.refl _ W6) (.cells #[.string (⟨#[125]⟩ : ByteArray)] 9 (0, 0))))).trans g3)
            clear m0_ m1_ g1 g2 g3
            go_wp2
            go_end0
            exact ⟨rfl, k1_.out, k2_.out, k3_.out⟩
end Go.Proofs.YtddpjjhekhompaaDoor.P
namespace Go.Proofs.YtddpjjhekhompaaDoor.P
open Go.RowKit Go.Proofs.YtddpjjhekhompaaDoorW.PrintWords Go.Proofs.YtddpjjhekhompaaDoorW.PrintLast Go.Proofs.YtddpjjhekhompaaDoorW.PrintMore
set_option linter.unusedVariables false
set_option linter.unusedSimpArgs false
def enumPre (e : S71) : List ByteArray := [⟨#[101, 110, 117, 109, 32]⟩, e.f0, ⟨#[32, 123]⟩]
def valPre (v : S74) : List ByteArray := [v.f0, ⟨#[32, 61, 32]⟩, dig v.f1, ⟨#[59]⟩]
def flatL {α : Type} (g : α → List UInt8) (l : List α) : List UInt8 := (l.map g).flatten
def valL (v : S74) : List UInt8 := lineL 1 (valPre v)
def enumL (e : S71) : List UInt8 := lineL 0 (enumPre e) ++ flatL valL e.f1 ++ lineL 0 shutP
def printL (l0 : List MsgS) (l1 : List (S71)) : List UInt8 := flatL msgL l0 ++ flatL enumL l1
theorem flatL_app {α : Type} (g : α → List UInt8) (a b : List α) : flatL g (a ++ b) = flatL g a ++ flatL g b := by
  unfold flatL
  rw [List.map_append, List.flatten_append]
theorem flatL_step {α : Type} (g : α → List UInt8) (l : List α) (i : Nat) (hi : i < l.length) : flatL g (l.take (i + 1)) = flatL g (l.take i) ++ g l[i] := by
  rw [show l.take (i + 1) = l.take i ++ [l[i]] from List.take_succ_eq_append_getElem hi, flatL_app]
  congr 1
  unfold flatL
  simp
theorem flatL_le {α : Type} (g : α → List UInt8) (l : List α) (i : Nat) : (flatL g (l.take i)).length ≤ (flatL g l).length := by
  have h : flatL g l = flatL g (l.take i) ++ flatL g (l.drop i) := by rw [← flatL_app, List.take_append_drop]
  rw [h, List.length_append]
  omega
def okM (m : MsgS) : Prop := (∀ f ∈ m.f1, rngI f.f5 ∧ rngI f.f3) ∧ (∀ n ∈ m.f3, rngI n) ∧ m.f1.length ≤ 1000000 ∧ m.f3.length ≤ 1000000
def PrintOk (l0 : List MsgS) (l1 : List (S71)) : Prop := (∀ m ∈ l0, okM m) ∧ (∀ e ∈ l1, ∀ v ∈ e.f1, rngI v.f1) ∧ (printL l0 l1).length ≤ 140737488355328
theorem notW_ty (cs : Array Value) (t : TypeId) (h1 : t ≠ 5) (h2 : t ≠ 67) : notW (.cells cs t (0, 0)) := by
  intro c m
  refine ⟨fun h => ?_, fun h => ?_⟩
  · injection h with _ h; exact h1 h
  · injection h with _ h; exact h2 h
structure WF (W0 V : World) (b fb : Nat) (CF : Array Value) (l : List UInt8) : Prop where
  wb : WB W0.heap.size V b l
  low : Below W0.heap.size W0 V
  box : V.heap[fb]? = some (.cells CF 26 (0, 0))
  ne : l = [] → V.heap[b]? = some (.cells #[.pointer none, .slice none 0 0] 67 (0, 0))
theorem lineL_ne (n : Nat) (ps : List ByteArray) : lineL n ps ≠ [] := by unfold lineL; simp
theorem app_ne (a : List UInt8) {c : List UInt8} (h : c ≠ []) : a ++ c ≠ [] := by simp [h]
theorem msgL_ne (m : MsgS) : msgL m ≠ [] := app_ne _ (lineL_ne _ _)
theorem WF.line {W0 V V' : World} {b fb : Nat} {CF : Array Value} {l l' : List UInt8} (h : WF W0 V b fb CF l) (h1 : WB W0.heap.size V' b l') (h2 : Below W0.heap.size W0 V') (h3 : KW V V') (h4 : l' ≠ []) : WF W0 V' b fb CF l' :=
  ⟨h1, h2, h3 _ _ h.box (notW_ty _ _ (by decide) (by decide)), fun e => absurd e h4⟩
theorem WF.below {W0 V V' : World} {b fb : Nat} {CF : Array Value} {l : List UInt8} (h : WF W0 V b fb CF l) (hb : Below V.heap.size V V') : WF W0 V' b fb CF l :=
  ⟨h.wb.keep hb, h.low.trans (hb.mono h.low.size), blk_below h.box hb, fun e => blk_below (h.ne e) hb⟩
theorem WF.text {W0 V : World} {b fb : Nat} {CF : Array Value} {l : List UInt8} (h : WF W0 V b fb CF l) : Calls Tryd.prog 21 #[.pointer (some ⟨b, 0, none⟩)] V fun e w' => e = .returned (.string (⟨l.toArray⟩ : ByteArray)) ∧ Below W0.heap.size V w' := by
  by_cases hl : l = []
  · have hb := h.ne hl
    subst hl
    exact wb_Str_nil W0.heap.size b _ V hb
  · rcases h.wb with h1 | ⟨h1, _⟩
    · exact wb_Str_some W0.heap.size b l V _ h1 hl
    · exact absurd h1 hl
theorem WF.alloc {W0 V : World} {b fb : Nat} {CF : Array Value} {l : List UInt8} (h : WF W0 V b fb CF l) (o : Obj) : WF W0 (V.alloc o) b fb CF l := h.below (below_alloc (Below.refl _ _) o)
theorem WF.eq {W0 V : World} {b fb : Nat} {CF : Array Value} {l l' : List UInt8} (h : WF W0 V b fb CF l) (e : l = l') : WF W0 V b fb CF l' := e ▸ h
instance (n : Int) : Decidable (rngI n) := by unfold rngI; infer_instance
instance (m : MsgS) : Decidable (okM m) := by unfold okM; infer_instance
instance (l0 : List MsgS) (l1 : List (S71)) : Decidable (PrintOk l0 l1) := by unfold PrintOk; infer_instance
def proto_Print.f (l0_0 : List (S40)) (l0_1 : List (S71)) : Option ByteArray := if PrintOk l0_0 l0_1 then some ⟨(printL l0_0 l0_1).toArray⟩ else none
set_option maxHeartbeats 4000000 in
set_option maxRecDepth 100000 in
theorem print_s (A0_0 : Option Addr) (c0_0 : Nat) (l0_0 : List (S40)) (A0_1 : Option Addr) (c0_1 : Nat) (l0_1 : List (S71)) (w : World) (hG : GInv w) (hr0_0 : Kd.C k40 w A0_0 l0_0.length l0_0) (hc0_0 : l0_0.length ≤ c0_0) (hr0_1 : Kd.C k71 w A0_1 l0_1.length l0_1) (hc0_1 : l0_1.length ≤ c0_1) (h : PrintOk l0_0 l0_1) :
    Calls Tryd.prog 7 #[.agg #[.slice A0_0 l0_0.length c0_0, .slice A0_1 l0_1.length c0_1]] w fun e w' => e = .returned (.string (⟨(printL l0_0 l0_1).toArray⟩ : ByteArray)) ∧ Below w.heap.size w w' := by
  have HLEN := Aside0.mk h.2.2
  have HOM := Aside0.mk h.1
  have HOE := Aside0.mk h.2.1
  have HG := Aside0.mk hG
  have HM := Aside0.mk hr0_0
  have HE := Aside0.mk hr0_1
  have hM0 := Kd.C_max hr0_0
  have hE0 := Kd.C_max hr0_1
  have HPL : Aside0 ((printL l0_0 l0_1).length = (flatL msgL l0_0).length + (flatL enumL l0_1).length) := ⟨by unfold printL; rw [List.length_append]⟩
  clear h hG hr0_0 hr0_1
  go_enter Tryd.func7, Tryd.ntmps7
  go_wp2_with fail
  have e0 : (w.alloc (.cells #[.slice A0_0 l0_0.length c0_0, .slice A0_1 l0_1.length c0_1] 26 (0, 0))).heap.size = w.heap.size + 1 := World.size_alloc _ _
  have h1 := below_alloc (Below.refl _ w) (.cells #[.slice A0_0 l0_0.length c0_0, .slice A0_1 l0_1.length c0_1] 26 (0, 0))
  have h2 := blk_alloc (blk_new w (.cells #[.slice A0_0 l0_0.length c0_0, .slice A0_1 l0_1.length c0_1] 26 (0, 0))) (.cells #[.pointer none, .slice none 0 0] 67 (0, 0))
  have h3 := blk_new (w.alloc (.cells #[.slice A0_0 l0_0.length c0_0, .slice A0_1 l0_1.length c0_1] 26 (0, 0))) (.cells #[.pointer none, .slice none 0 0] 67 (0, 0))
  have h4 := h1.trans ((below_alloc (Below.refl _ (w.alloc (.cells #[.slice A0_0 l0_0.length c0_0, .slice A0_1 l0_1.length c0_1] 26 (0, 0)))) (.cells #[.pointer none, .slice none 0 0] 67 (0, 0))).mono h1.size)
  rw [e0] at h3
  generalize (w.alloc (.cells #[.slice A0_0 l0_0.length c0_0, .slice A0_1 l0_1.length c0_1] 26 (0, 0))).alloc (.cells #[.pointer none, .slice none 0 0] 67 (0, 0)) = V0 at *
  have HW0 : Aside0 (WF w V0 (w.heap.size + 1) w.heap.size #[.slice A0_0 l0_0.length c0_0, .slice A0_1 l0_1.length c0_1] []) := ⟨⟨.inr ⟨rfl, h3, Nat.le_succ _⟩, h4, h2, fun _ => h3⟩⟩
  clear e0 h1 h2 h3 h4
  go_loopg [15] l0_0.length (fun n_ v V => ∃ i : Nat, v = .int .i64 i ∧ Aside0 (WF w V (w.heap.size + 1) w.heap.size #[.slice A0_0 l0_0.length c0_0, .slice A0_1 l0_1.length c0_1] (flatL msgL (l0_0.take i))) ∧ Aside0 (i + n_ = l0_0.length))
  case atStart => exact ⟨0, rfl, HW0, ⟨by omega⟩⟩
  case round =>
    clear HW0
    obtain ⟨i, rfl, HW, HI⟩ := hrel
    have hin := HI.out
    by_cases hlt : i < l0_0.length
    · have d1 : decide ((i : Int) < (l0_0.length : Int)) = true := decide_eq_true (by omega)
      have d2 : decide (i < l0_0.length) = true := decide_eq_true hlt
      have d3 : (0 : Int) ≤ (i : Int) := by omega
      have d4 : (i : Int) < (l0_0.length : Int) := by omega
      obtain ⟨ad, A1, c1, A2, c2, A3, c3, had, z0, z1, z2, z3, z4, g1, g2, g3, g4, g5, g6⟩ := at_T40 HM.out i d3 d4
      obtain ⟨m, hm⟩ : ∃ m, m = l0_0[i] := ⟨_, rfl⟩
      have hrd : rd_T40 l0_0 i = m := by unfold rd_T40; rw [hm, List.getD_eq_getElem?_getD]; simp [hlt]
      rw [hrd] at z0 z1 z2 z3 z4 g1 g2 g3 g4 g5 g6
      rw [Int.toNat_natCast] at z0 z1 z2 z3 z4
      have HK := Aside0.mk (HOM.out l0_0[i] (List.getElem_mem hlt))
      rw [← hm] at HK
      have hst := flatL_step msgL l0_0 i hlt
      rw [← hm] at hst
      have HST := Aside0.mk hst
      replace z0 := (HW.out.low.cell (World.block_lt_of_cell? w _ z0)).trans z0
      replace z1 := (HW.out.low.cell (World.block_lt_of_cell? w _ z1)).trans z1
      replace z2 := (HW.out.low.cell (World.block_lt_of_cell? w _ z2)).trans z2
      replace z3 := (HW.out.low.cell (World.block_lt_of_cell? w _ z3)).trans z3
      replace z4 := (HW.out.low.cell (World.block_lt_of_cell? w _ z4)).trans z4
      have G1 := Aside0.mk g1
      have G2 := Aside0.mk g2
      have G3 := Aside0.mk g3
      have G4 := Aside0.mk g4
      have G5 := Aside0.mk g5
      have G6 := Aside0.mk g6
      have HQ : Aside0 ((flatL msgL (l0_0.take i)).length + (msgL m).length ≤ 140737488355328) := ⟨by
        have q1 := flatL_le msgL l0_0 (i + 1)
        rw [hst, List.length_append] at q1
        have q2 := HPL.out
        have q3 := HLEN.out
        omega⟩
      clear hrd hm hst g1 g2 g3 g4 g5 g6
      subst had
      cases gk with
      | zero => omega
      | succ k1 =>
        go_wp2_with fail
        have n0_ := Aside0.mk (HW.out.alloc (.cells #[.string m.f0, .slice A1 m.f1.length c1, .slice A2 m.f2.length c2, .slice A3 m.f3.length c3, .int .i64 m.f4] 40 (0, 0)))
        generalize wr.alloc (.cells #[.string m.f0, .slice A1 m.f1.length c1, .slice A2 m.f2.length c2, .slice A3 m.f3.length c3, .int .i64 m.f4] 40 (0, 0)) = V2 at *
        clear HW z0 z1 z2 z3 z4
        go_at_call 18
        refine (wmsg_s m n0_.out.wb HG.out n0_.out.low G2.out G4.out G6.out G1.out G3.out G5.out HK.out.1 HK.out.2.1 HK.out.2.2 HQ.out).mono ?_
        rintro e3 W3 ⟨rfl, g1, g2, g3⟩
        have n1_ : Aside0 (WF w W3 (w.heap.size + 1) w.heap.size #[.slice (some ad) l0_0.length c0_0, .slice A0_1 l0_1.length c0_1] (flatL msgL (l0_0.take (i + 1)))) := ⟨(n0_.out.line g1 g2 g3 (app_ne _ (msgL_ne m))).eq HST.out.symm⟩
        clear n0_ g1 g2 g3
        go_wp2_with fail
        go_roundg k1
        case measure => omega
        case rel => exact ⟨i + 1, by go_num, n1_, ⟨by omega⟩⟩
    · have d1 : decide ((i : Int) < (l0_0.length : Int)) = false := decide_eq_false (by omega)
      have d2 : decide (i < l0_0.length) = false := decide_eq_false hlt
      have hi : i = l0_0.length := by omega
      have hw := HW.out
      rw [List.take_of_length_le (by omega)] at hw
      have HW2 := Aside0.mk hw
      have y1 : wr.cell? ⟨w.heap.size, 1, none⟩ = some (.slice A0_1 l0_1.length c0_1) := (blk_cell HW.out.box 1).trans rfl
      clear HW hw HI hin hi hlt
      go_wp2_with fail
      clear y1
      go_loopg [26] l0_1.length (fun n_ v V => ∃ i : Nat, v = .int .i64 i ∧ Aside0 (WF w V (w.heap.size + 1) w.heap.size #[.slice A0_0 l0_0.length c0_0, .slice A0_1 l0_1.length c0_1] (flatL msgL l0_0 ++ flatL enumL (l0_1.take i))) ∧ Aside0 (i + n_ = l0_1.length))
      case atStart => exact ⟨0, rfl, ⟨HW2.out.eq (List.append_nil _).symm⟩, ⟨by omega⟩⟩
      case round =>
        clear HW2
        obtain ⟨i, rfl, HW, HI⟩ := hrel
        have hin := HI.out
        by_cases hlt : i < l0_1.length
        · have d1 : decide ((i : Int) < (l0_1.length : Int)) = true := decide_eq_true (by omega)
          have d2 : decide (i < l0_1.length) = true := decide_eq_true hlt
          have d3 : (0 : Int) ≤ (i : Int) := by omega
          have d4 : (i : Int) < (l0_1.length : Int) := by omega
          obtain ⟨ad, A1, c1, had, z0, z1, z2, g1, g2⟩ := at_T71 HE.out i d3 d4
          obtain ⟨m, hm⟩ : ∃ m, m = l0_1[i] := ⟨_, rfl⟩
          have hrd : rd_T71 l0_1 i = m := by unfold rd_T71; rw [hm, List.getD_eq_getElem?_getD]; simp [hlt]
          rw [hrd] at z0 z1 z2 g1 g2
          rw [Int.toNat_natCast] at z0 z1 z2
          have HK := Aside0.mk (HOE.out l0_1[i] (List.getElem_mem hlt))
          rw [← hm] at HK
          have hst := flatL_step enumL l0_1 i hlt
          rw [← hm] at hst
          have HST := Aside0.mk hst
          replace z0 := (HW.out.low.cell (World.block_lt_of_cell? w _ z0)).trans z0
          replace z1 := (HW.out.low.cell (World.block_lt_of_cell? w _ z1)).trans z1
          replace z2 := (HW.out.low.cell (World.block_lt_of_cell? w _ z2)).trans z2
          have G1 := Aside0.mk g1
          have G2 := Aside0.mk g2
          have hvm := Kd.C_max g2
          have HQ : Aside0 ((flatL msgL l0_0 ++ flatL enumL (l0_1.take i)).length + (lineL (0 : Int).toNat (enumPre m)).length + (flatL valL m.f1).length + (lineL (0 : Int).toNat shutP).length ≤ 140737488355328) := ⟨by
            have q1 := flatL_le enumL l0_1 (i + 1)
            rw [hst, List.length_append] at q1
            unfold enumL at q1
            simp only [List.length_append] at q1
            have q2 := HPL.out
            have q3 := HLEN.out
            have q4 : (0 : Int).toNat = 0 := rfl
            rw [q4]
            simp only [List.length_append]
            unfold enumL at q2 ⊢
            omega⟩
          clear hrd hm hst g1 g2
          subst had
          cases gk with
          | zero => omega
          | succ k1 =>
            have y1 : ∀ o, (wr.alloc o).cell? ⟨w.heap.size, 0, none⟩ = some (.slice A0_0 l0_0.length c0_0) := fun o => (blk_cell (blk_alloc HW.out.box o) 0).trans rfl
            clear y1
            go_wp2_with fail
            have n0_ := Aside0.mk (HW.out.alloc (.cells #[.string m.f0, .slice A1 m.f1.length c1, .int .i64 m.f2] 71 (0, 0)))
            have HX := Aside0.mk (blk_new wr (.cells #[.string m.f0, .slice A1 m.f1.length c1, .int .i64 m.f2] 71 (0, 0)))
            have e0 : (wr.alloc (.cells #[.string m.f0, .slice A1 m.f1.length c1, .int .i64 m.f2] 71 (0, 0))).heap.size = wr.heap.size + 1 := World.size_alloc _ _
            generalize wr.alloc (.cells #[.string m.f0, .slice A1 m.f1.length c1, .int .i64 m.f2] 71 (0, 0)) = V2 at *
            clear HW z0 z1 z2
            generalize wr.heap.size = eb at *
            have HE0 := Aside0.mk e0
            clear e0
            go_at_call 19
            refine (line_w 0 (enumPre m) 3 rfl (n0_.out.wb.keep (below_alloc (Below.refl _ _) _)) (n0_.out.low.trans ((below_alloc (Below.refl _ _) _).mono n0_.out.low.size)) (by decide) (by decide) (by have hq := blk_new V2 (.cells #[.string (⟨#[101, 110, 117, 109, 32]⟩ : ByteArray), .string m.f0, .string (⟨#[32, 123]⟩ : ByteArray)] 9 (0, 0)); first | exact hq | (rw [HE0.out] at hq; exact hq)) (by have := HQ.out; omega) (Nat.le_of_ble_eq_true rfl)).mono ?_
            rintro e3 W3 ⟨rfl, g1, g2, g3⟩
            have n1_ := Aside0.mk ((n0_.out.alloc (.cells #[.string (⟨#[101, 110, 117, 109, 32]⟩ : ByteArray), .string m.f0, .string (⟨#[32, 123]⟩ : ByteArray)] 9 (0, 0))).line g1 g2 g3 (app_ne _ (lineL_ne _ _)))
            have HX1 := Aside0.mk (g3 _ _ (blk_alloc HX.out (.cells #[.string (⟨#[101, 110, 117, 109, 32]⟩ : ByteArray), .string m.f0, .string (⟨#[32, 123]⟩ : ByteArray)] 9 (0, 0))) (notW_ty _ _ (by decide) (by decide)))
            clear n0_ g1 g2 g3 HX HE0
            have y1 : W3.cell? ⟨eb, 1, none⟩ = some (.slice A1 m.f1.length c1) := (blk_cell HX1.out 1).trans rfl
            go_wp2_with fail
            clear y1 HX1
            go_loopg [38] m.f1.length (fun n_ v V => ∃ j : Nat, v = .int .i64 j ∧ Aside0 (WF w V (w.heap.size + 1) w.heap.size #[.slice A0_0 l0_0.length c0_0, .slice (some ad) l0_1.length c0_1] (flatL msgL l0_0 ++ flatL enumL (l0_1.take i) ++ lineL (0 : Int).toNat (enumPre m) ++ flatL valL (m.f1.take j))) ∧ Aside0 (j + n_ = m.f1.length))
            case atStart => exact ⟨0, rfl, ⟨n1_.out.eq (List.append_nil _).symm⟩, ⟨by omega⟩⟩
            case round =>
              clear n1_
              obtain ⟨j, rfl, HW, HJ⟩ := hrel
              have hjn := HJ.out
              by_cases hlj : j < m.f1.length
              · have d1 : decide ((j : Int) < (m.f1.length : Int)) = true := decide_eq_true (by omega)
                have d2 : decide (j < m.f1.length) = true := decide_eq_true hlj
                have d3 : (0 : Int) ≤ (j : Int) := by omega
                have d4 : (j : Int) < (m.f1.length : Int) := by omega
                obtain ⟨ad3, had, z0, z1, z2⟩ := at_T74 (Kd.C_below G2.out HW.out.low) j d3 d4
                obtain ⟨v, hm⟩ : ∃ v, v = m.f1[j] := ⟨_, rfl⟩
                have hrd : rd_T74 m.f1 j = v := by unfold rd_T74; rw [hm, List.getD_eq_getElem?_getD]; simp [hlj]
                rw [hrd] at z0 z1 z2
                rw [Int.toNat_natCast] at z0 z1 z2
                have HVR := Aside0.mk (HK.out m.f1[j] (List.getElem_mem hlj))
                rw [← hm] at HVR
                have hst := flatL_step valL m.f1 j hlj
                rw [← hm] at hst
                have HST2 := Aside0.mk hst
                have HQ2 : Aside0 ((flatL msgL l0_0 ++ flatL enumL (l0_1.take i) ++ lineL (0 : Int).toNat (enumPre m) ++ flatL valL (m.f1.take j)).length + (lineL (1 : Int).toNat [v.f0, ⟨#[32, 61, 32]⟩, dig v.f1, ⟨#[59]⟩]).length ≤ 140737488355328) := ⟨by
                  have q1 := flatL_le valL m.f1 (j + 1)
                  rw [hst, List.length_append] at q1
                  have q2 := HQ.out
                  have q3 : (valL v).length = (lineL (1 : Int).toNat [v.f0, ⟨#[32, 61, 32]⟩, dig v.f1, ⟨#[59]⟩]).length := rfl
                  rw [← q3]
                  simp only [List.length_append] at q2 ⊢
                  omega⟩
                clear hrd hm hst
                subst had
                cases gk with
                | zero => omega
                | succ k2 =>
                  go_wp2_with fail
                  have n0_ := Aside0.mk (HW.out.alloc (.cells #[.string v.f0, .int .i64 v.f1, .int .i64 v.f2] 74 (0, 0)))
                  have hx := blk_new wr (.cells #[.string v.f0, .int .i64 v.f1, .int .i64 v.f2] 74 (0, 0))
                  generalize wr.alloc (.cells #[.string v.f0, .int .i64 v.f1, .int .i64 v.f2] 74 (0, 0)) = V2 at *
                  have y4 : V2.cell? ⟨wr.heap.size, 0, none⟩ = some (.string v.f0) := (blk_cell hx 0).trans rfl
                  have y5 : V2.cell? ⟨wr.heap.size, 1, none⟩ = some (.int .i64 v.f1) := (blk_cell hx 1).trans rfl
                  have HW0 := Aside0.mk (n0_.out.below (Below.refl _ V2).drew)
                  clear HW n0_ z0 z1 z2 hx
                  generalize wr.heap.size = vb at *
                  refine start_ (n := 8) (S := fun w' => w'.cell? ⟨vb, 0, none⟩ = some (.string v.f0) ∧ w'.cell? ⟨vb, 1, none⟩ = some (.int .i64 v.f1)) (ds := [7]) #[false, false, false, false, false, false, false, false] (by kernel_rfl) rfl rfl ⟨y4, y5⟩ (fun hHeld => ?_)
                  generalize V2.drew = WD at *
                  refine pure_ (i := 0) (N := some 42) (v := ?_) (a' := ?_) #[true, false, false, false, false, false, false, false] rfl rfl (by kernel_rfl) (fun _ _ _ h => h) (Or.inl ⟨by rfl, ?_⟩) ?_ ?_
                  rotate_left
                  · intro w'
                    go_simp
                    with_reducible rfl
                  rotate_left
                  · simp only [Act.put, List.setIfInBounds_toArray, List.set_cons_zero, List.set_cons_succ]
                    rfl
                  refine pure_ (i := 1) (N := some 43) (v := ?_) (a' := ?_) #[true, true, false, false, false, false, false, false] rfl rfl (by kernel_rfl) (fun _ _ _ h => h) (Or.inl ⟨by rfl, ?_⟩) ?_ ?_
                  rotate_left
                  · intro w'
                    go_simp
                    with_reducible rfl
                  rotate_left
                  · simp only [Act.put, List.setIfInBounds_toArray, List.set_cons_zero, List.set_cons_succ]
                    rfl
                  refine pure_ (i := 3) (N := some 45) (v := ?_) (a' := ?_) #[true, true, false, true, false, false, false, false] rfl rfl (by kernel_rfl) (fun _ _ _ h => h) (Or.inl ⟨by rfl, ?_⟩) ?_ ?_
                  rotate_left
                  · intro w'
                    go_simp
                    with_reducible rfl
                  rotate_left
                  · simp only [Act.put, List.setIfInBounds_toArray, List.set_cons_zero, List.set_cons_succ]
                    rfl
                  refine take_ (i := 2) (N := some 44) (v := ?_) (a' := ?_) #[true, true, true, true, false, false, false, false] rfl rfl (by kernel_rfl) (fun _ _ _ h => h) (Or.inl ⟨by rfl, ?_⟩) hHeld ?_ ?_
                  rotate_left
                  · rintro w' ⟨s0, s1⟩
                    go_simp
                    with_reducible rfl
                  rotate_left
                  · simp only [Act.put, List.setIfInBounds_toArray, List.set_cons_zero, List.set_cons_succ]
                    rfl
                  refine take_ (i := 4) (N := some 46) (v := ?_) (a' := ?_) #[true, true, true, true, true, false, false, false] rfl rfl (by kernel_rfl) (fun _ _ _ h => h) (Or.inl ⟨by rfl, ?_⟩) hHeld ?_ ?_
                  rotate_left
                  · rintro w' ⟨s0, s1⟩
                    go_simp
                    with_reducible rfl
                  rotate_left
                  · simp only [Act.put, List.setIfInBounds_toArray, List.set_cons_zero, List.set_cons_succ]
                    rfl
                  refine one_ (i := 5) (N := some 47) #[true, true, true, true, true, true, false, false] rfl rfl (by kernel_rfl) (by decide) (fun K hK => ?_)
                  refine goes_ Tryd.func20 (by kernel_rfl) rfl #[.int .i64 v.f1] (by rfl) rfl rfl (by simp only [List.map_toArray, List.map_cons, List.map_nil]; rfl) ?_
                  with_reducible refine (digits_s v.f1 HVR.out _ (HG.out.below HW0.out.low)).mono ?_
                  rintro e1 W1 ⟨rfl, hb⟩
                  refine ⟨_, rfl, ?_⟩
                  have HW1 := Aside0.mk (HW0.out.below hb)
                  refine hK.out _ _ ⟨pw_cell_below hb hHeld.1, pw_cell_below hb hHeld.2⟩ (fun hHeld => ?_)
                  clear hK K
                  refine norm_ (a' := ?_) ?_ ?_
                  rotate_left
                  · show Act.put _ (some 47) _ = _
                    simp only [Act.put, List.setIfInBounds_toArray, List.set_cons_zero, List.set_cons_succ]
                    rfl
                  refine one_ (i := 6) (N := some 48) #[true, true, true, true, true, true, true, false] rfl rfl (by kernel_rfl) (by decide) (fun K hK => ?_)
                  refine value_ (w1 := ?_) (v := ?_) (by rfl) rfl ?_ ?_
                  rotate_left 2
                  · go_simp
                    constructor
                    · rfl
                    · rfl
                  refine hK.out _ _ ⟨pw_cell_below (below_alloc (Below.refl _ _) _) hHeld.1, pw_cell_below (below_alloc (Below.refl _ _) _) hHeld.2⟩ (fun hHeld => ?_)
                  clear hK K
                  refine norm_ (a' := ?_) ?_ ?_
                  rotate_left
                  · show Act.put _ (some 48) _ = _
                    simp only [Act.put, List.setIfInBounds_toArray, List.set_cons_zero, List.set_cons_succ]
                    rfl
                  refine last_ (i := 7) (N := some 49) #[true, true, true, true, true, true, true, true] rfl rfl (by kernel_rfl) (by decide) (fun K hK => ?_)
                  refine goes_ Tryd.func19 (by kernel_rfl) rfl #[.pointer (some ⟨w.heap.size + 1, 0, none⟩), .int .i64 1, .slice (some ⟨W1.heap.size, 0, none⟩) 4 4] (by rfl) rfl rfl (by simp only [List.map_toArray, List.map_cons, List.map_nil]; rfl) ?_
                  with_reducible refine (line_w 1 [v.f0, ⟨#[32, 61, 32]⟩, dig v.f1, ⟨#[59]⟩] 4 rfl (HW1.out.wb.keep (below_alloc (Below.refl _ _) _)) (HW1.out.low.trans ((below_alloc (Below.refl _ _) _).mono HW1.out.low.size)) (by decide) (by decide) (blk_new W1 (.cells #[.string v.f0, .string (⟨#[32, 61, 32]⟩ : ByteArray), .string (dig v.f1), .string (⟨#[59]⟩ : ByteArray)] 9 (0, 0))) HQ2.out (Nat.le_of_ble_eq_true rfl)).mono ?_
                  rintro e2 W2 ⟨rfl, g1, g2, g3⟩
                  refine ⟨_, rfl, ?_⟩
                  have HW2 := Aside0.mk ((HW1.out.alloc (.cells #[.string v.f0, .string (⟨#[32, 61, 32]⟩ : ByteArray), .string (dig v.f1), .string (⟨#[59]⟩ : ByteArray)] 9 (0, 0))).line g1 g2 g3 (app_ne _ (lineL_ne _ _)))
                  clear g1 g2 g3
                  refine hK.out _ _ ?_
                  clear hK K
                  refine norm_ (a' := ?_) ?_ ?_
                  rotate_left
                  · show Act.put _ (some 49) _ = _
                    simp only [Act.put, List.setIfInBounds_toArray, List.set_cons_zero, List.set_cons_succ]
                    rfl
                  refine done_ (by kernel_rfl) ?_
                  clear HW0 HW1
                  go_wp2_with fail
                  have n2_ : Aside0 (WF w W2 (w.heap.size + 1) w.heap.size #[.slice A0_0 l0_0.length c0_0, .slice (some ad) l0_1.length c0_1] (flatL msgL l0_0 ++ flatL enumL (l0_1.take i) ++ lineL (0 : Int).toNat (enumPre m) ++ flatL valL (m.f1.take (j + 1)))) := ⟨HW2.out.eq (by rw [HST2.out, ← List.append_assoc]; rfl)⟩
                  go_roundg k2
                  case measure => omega
                  case rel => exact ⟨j + 1, by go_num, n2_, ⟨by omega⟩⟩
              · have d1 : decide ((j : Int) < (m.f1.length : Int)) = false := decide_eq_false (by omega)
                have d2 : decide (j < m.f1.length) = false := decide_eq_false hlj
                have hw := HW.out
                rw [List.take_of_length_le (show m.f1.length ≤ j by omega)] at hw
                have HW2 := Aside0.mk hw
                clear HW hw hlj HJ hjn
                go_wp2_with fail
                go_at_call 19
                refine (line_w 0 shutP 1 rfl (HW2.out.wb.keep (below_alloc (Below.refl _ _) _)) (HW2.out.low.trans ((below_alloc (Below.refl _ _) _).mono HW2.out.low.size)) (by decide) (by decide) (by exact blk_new wr (.cells #[.string (⟨#[125]⟩ : ByteArray)] 9 (0, 0))) (by have := HQ.out; simp only [List.length_append] at this ⊢; omega) (Nat.le_of_ble_eq_true rfl)).mono ?_
                rintro e5 W5 ⟨rfl, g1, g2, g3⟩
                have n2_ : Aside0 (WF w W5 (w.heap.size + 1) w.heap.size #[.slice A0_0 l0_0.length c0_0, .slice (some ad) l0_1.length c0_1] (flatL msgL l0_0 ++ flatL enumL (l0_1.take (i + 1)))) := ⟨((HW2.out.alloc (.cells #[.string (⟨#[125]⟩ : ByteArray)] 9 (0, 0))).line g1 g2 g3 (app_ne _ (lineL_ne _ _))).eq (by rw [HST.out]; unfold enumL; simp only [List.append_assoc]; rfl)⟩
                clear HW2 g1 g2 g3
                go_wp2_with fail
                go_roundg k1
                case measure => omega
                case rel => exact ⟨i + 1, by go_num, n2_, ⟨by omega⟩⟩
        · have d1 : decide ((i : Int) < (l0_1.length : Int)) = false := decide_eq_false (by omega)
          have d2 : decide (i < l0_1.length) = false := decide_eq_false hlt
          have hw := HW.out
          rw [List.take_of_length_le (by omega)] at hw
          have HW2 : Aside0 (WF w wr (w.heap.size + 1) w.heap.size #[.slice A0_0 l0_0.length c0_0, .slice A0_1 l0_1.length c0_1] (printL l0_0 l0_1)) := ⟨hw⟩
          clear HW hw HI hin hlt
          go_wp2_with fail
          go_at_call 21
          refine (HW2.out.text).mono ?_
          rintro e5 W5 ⟨rfl, g1⟩
          have n2_ := Aside0.mk (HW2.out.low.trans g1)
          clear HW2 g1
          go_wp2
          go_ret
          exact ⟨rfl, n2_.out⟩
theorem proto_Print.calls (A0_0 : Option Addr) (c0_0 : Nat) (l0_0 : List (S40)) (A0_1 : Option Addr) (c0_1 : Nat) (l0_1 : List (S71)) (r : ByteArray) (w : World) (hG : GInv w) (hr0_0 : Kd.C k40 w A0_0 l0_0.length l0_0) (hc0_0 : l0_0.length ≤ c0_0) (hr0_1 : Kd.C k71 w A0_1 l0_1.length l0_1) (hc0_1 : l0_1.length ≤ c0_1) (h : proto_Print.f l0_0 l0_1 = some r) :
    Calls Tryd.prog 7 #[.agg #[.slice A0_0 l0_0.length c0_0, .slice A0_1 l0_1.length c0_1]] w fun e w' => e = .returned (.string r) ∧ Below w.heap.size w w' := by
  unfold proto_Print.f at h
  split at h
  · rename_i hs
    obtain rfl := Option.some.inj h
    exact print_s A0_0 c0_0 l0_0 A0_1 c0_1 l0_1 w hG hr0_0 hc0_0 hr0_1 hc0_1 hs
  · cases h
end Go.Proofs.YtddpjjhekhompaaDoor.P
namespace Go.Proofs.YtddpjjhekhompaaDoor.P
open Go.RowKit Go.Proofs.YtddpjjhekhompaaDoorW.PrintWords Go.Proofs.YtddpjjhekhompaaDoorW.PrintLast Go.Proofs.YtddpjjhekhompaaDoorW.PrintMore
set_option linter.unusedVariables false
set_option linter.unusedSimpArgs false
def trufflelaw07_awake.f  : Option (Bool) := (proto_Parse.f (⟨#[109, 101, 115, 115, 97, 103, 101, 32, 65, 32, 123, 32, 105, 110, 116, 54, 52, 32, 97, 32, 61, 32, 49, 59, 32, 125]⟩ : ByteArray)).bind fun bt140 => (if bt140.2.2.2 = 0 then (if bt140.2.2.1 = 26 then (if (bt140.1.length : Int) = 1 then (if 0 < (bt140.1.length : Int) then (if (((rd_T40 bt140.1 0).f1).length : Int) = 1 then (if 0 < (((rd_T40 bt140.1 0).f1).length : Int) then (if ((rd_T42 ((rd_T40 bt140.1 0).f1) 0).f4).toList = ([97] : List UInt8) then ((proto_Print.f bt140.1 bt140.2.1).bind fun t152 => (some (t152.toList == ([109, 101, 115, 115, 97, 103, 101, 32, 65, 32, 123, 10, 32, 32, 105, 110, 116, 54, 52, 32, 97, 32, 61, 32, 49, 59, 10, 125, 10] : List UInt8)))) else (some false)) else (none)) else (some false)) else (none)) else (some false)) else (some false)) else (some false))
set_option maxHeartbeats 8000000 in
set_option maxRecDepth 100000 in
theorem trufflelaw07_awake.callsT  (w : World) (hG : GInv w) (h : trufflelaw07_awake.f  = some true) :
    Calls Tryd.prog 4 #[] w fun e w' => e = .returned (.bool true) ∧ Below w.heap.size w w' := by
  have hu26 := Tryd.underlying26
  have HB := Aside0.mk (Below.refl w.heap.size w)
  have H : ((proto_Parse.f (⟨#[109, 101, 115, 115, 97, 103, 101, 32, 65, 32, 123, 32, 105, 110, 116, 54, 52, 32, 97, 32, 61, 32, 49, 59, 32, 125]⟩ : ByteArray)).bind fun bt140 => (if bt140.2.2.2 = 0 then (if bt140.2.2.1 = 26 then (if (bt140.1.length : Int) = 1 then (if 0 < (bt140.1.length : Int) then (if (((rd_T40 bt140.1 0).f1).length : Int) = 1 then (if 0 < (((rd_T40 bt140.1 0).f1).length : Int) then (if ((rd_T42 ((rd_T40 bt140.1 0).f1) 0).f4).toList = ([97] : List UInt8) then ((proto_Print.f bt140.1 bt140.2.1).bind fun t152 => (some (t152.toList == ([109, 101, 115, 115, 97, 103, 101, 32, 65, 32, 123, 10, 32, 32, 105, 110, 116, 54, 52, 32, 97, 32, 61, 32, 49, 59, 10, 125, 10] : List UInt8)))) else (some false)) else (none)) else (some false)) else (none)) else (some false)) else (some false)) else (some false))) = some true := h
  clear h
  replace H := Option.bind_eq_some_iff.mp H
  obtain ⟨⟨t140, t143, t146, t147⟩, A10, H⟩ := H
  replace H : (if t147 = 0 then (if t146 = 26 then (if (t140.length : Int) = 1 then (if 0 < (t140.length : Int) then (if (((rd_T40 t140 0).f1).length : Int) = 1 then (if 0 < (((rd_T40 t140 0).f1).length : Int) then (if ((rd_T42 ((rd_T40 t140 0).f1) 0).f4).toList = ([97] : List UInt8) then ((proto_Print.f t140 t143).bind fun t152 => (some (t152.toList == ([109, 101, 115, 115, 97, 103, 101, 32, 65, 32, 123, 10, 32, 32, 105, 110, 116, 54, 52, 32, 97, 32, 61, 32, 49, 59, 10, 125, 10] : List UInt8)))) else (some false)) else (none)) else (some false)) else (none)) else (some false)) else (some false)) else (some false)) = some true := H
  have A1 := Aside0.mk A10
  clear A10
  by_cases c2 : t147 = 0
  · rw [if_pos c2] at H
    have c2b0 : (t147 == 0) = true := beq_iff_eq.mpr c2
    have c2b1 : (t147 != 0) = false := bne_eq_false_iff_eq.mpr c2
    clear c2
    by_cases c3 : t146 = 26
    · rw [if_pos c3] at H
      have c3b0 : (t146 == 26) = true := beq_iff_eq.mpr c3
      have c3b1 : (t146 != 26) = false := bne_eq_false_iff_eq.mpr c3
      clear c3
      by_cases c4 : (t140.length : Int) = 1
      · rw [if_pos c4] at H
        have c4b0 : ((t140.length : Int) == 1) = true := beq_iff_eq.mpr c4
        have c4b1 : ((t140.length : Int) != 1) = false := bne_eq_false_iff_eq.mpr c4
        clear c4
        by_cases c5 : 0 < (t140.length : Int)
        · rw [if_pos c5] at H
          have c5b0 : decide (0 < (t140.length : Int)) = true := decide_eq_true c5
          have c5b1 : decide (0 < t140.length) = true := decide_eq_true (by omega)
          clear c5
          by_cases c6 : (((rd_T40 t140 0).f1).length : Int) = 1
          · rw [if_pos c6] at H
            have c6b0 : ((((rd_T40 t140 0).f1).length : Int) == 1) = true := beq_iff_eq.mpr c6
            have c6b1 : ((((rd_T40 t140 0).f1).length : Int) != 1) = false := bne_eq_false_iff_eq.mpr c6
            clear c6
            by_cases c7 : 0 < (((rd_T40 t140 0).f1).length : Int)
            · rw [if_pos c7] at H
              have c7b0 : decide (0 < (((rd_T40 t140 0).f1).length : Int)) = true := decide_eq_true c7
              have c7b1 : decide (0 < ((rd_T40 t140 0).f1).length) = true := decide_eq_true (by omega)
              clear c7
              by_cases c8 : ((rd_T42 ((rd_T40 t140 0).f1) 0).f4).toList = ([97] : List UInt8)
              · rw [if_pos c8] at H
                have c8b0 : (((rd_T42 ((rd_T40 t140 0).f1) 0).f4).toList == ([97] : List UInt8)) = true := beq_iff_eq.mpr c8
                have c8b1 : (((rd_T42 ((rd_T40 t140 0).f1) 0).f4).toList != ([97] : List UInt8)) = false := bne_eq_false_iff_eq.mpr c8
                clear c8
                replace H := Option.bind_eq_some_iff.mp H
                obtain ⟨t152, A90, H⟩ := H
                replace H : (some (t152.toList == ([109, 101, 115, 115, 97, 103, 101, 32, 65, 32, 123, 10, 32, 32, 105, 110, 116, 54, 52, 32, 97, 32, 61, 32, 49, 59, 10, 125, 10] : List UInt8))) = some true := H
                have A9 := Aside0.mk A90
                clear A90
                have hv_ := Option.some.inj H
                go_enter Tryd.func4, Tryd.ntmps4
                go_wp2_with (first | ((with_reducible refine gate_callee (f := 5) rfl ?_); refine goesL_ (some 5) rfl rfl Tryd.func5 (by kernel_rfl) rfl #[.string (⟨#[109, 101, 115, 115, 97, 103, 101, 32, 65, 32, 123, 32, 105, 110, 116, 54, 52, 32, 97, 32, 61, 32, 49, 59, 32, 125]⟩ : ByteArray)] rfl (by (try simp only [List.map_toArray, List.map_cons, List.map_nil]); first | done | rfl | (simp only [List.length_drop, List.length_take]; rfl)) ?_; (with_reducible refine (proto_Parse.calls (⟨#[109, 101, 115, 115, 97, 103, 101, 32, 65, 32, 123, 32, 105, 110, 116, 54, 52, 32, 97, 32, 61, 32, 49, 59, 32, 125]⟩ : ByteArray) t140 t143 t146 t147 _ ?side1 A1.out).mono ?_); (case side1 => exact hG.below (by repeat (first | (with_reducible first | exact HB.out | apply below_alloc | apply pw_below_drewN | apply below_drew1) | exact HB.out))); rintro e w10 ⟨v141, v144, rfl, ho0, ho1, hb⟩; refine ⟨_, rfl, ?_⟩; have n0_ := Aside0.mk (Kd.R_lower ho0 (below_size (by repeat (first | (with_reducible first | exact HB.out | apply below_alloc | apply pw_below_drewN | apply below_drew1) | exact HB.out)))); have n1_ := Aside0.mk (Kd.R_lower ho1 (below_size (by repeat (first | (with_reducible first | exact HB.out | apply below_alloc | apply pw_below_drewN | apply below_drew1) | exact HB.out)))); have n2_ := Aside0.mk (below_step (by repeat (first | (with_reducible first | exact HB.out | apply below_alloc | apply pw_below_drewN | apply below_drew1) | exact HB.out)) hb); clear HB; have HO142 := n0_; have HO145 := n1_; have HB := n2_; clear n0_ n1_ n2_; (try clear hb); (try clear hb2); (try clear hk); (try clear hi); (try clear ho0); (try clear ho1)) | ((with_reducible refine gate_dst (N := 1) rfl ?_); (try (refine gate_guard (by rfl) ?_; dsimp only)); refine box_event ?hg (N := 1) ?hd (cs := #[.slice none 0 0, .slice none 0 0]) (t := 26) ?hr ?_; (case hd => rfl); (case hg => rfl); (case hr => first | (go_simp; done) | (go_simp; rfl)); intro gb148 hg w11 hbox hb; have n0_ := Aside0.mk (Kd.R_below (by (with_reducible repeat (first | apply Kd.R_alloc | apply Kd.R_drewN | apply Kd.R_drew)); exact HO142.out) hb); have n1_ := Aside0.mk (Kd.R_below (by (with_reducible repeat (first | apply Kd.R_alloc | apply Kd.R_drewN | apply Kd.R_drew)); exact HO145.out) hb); have n2_ := Aside0.mk (below_step (by repeat (first | (with_reducible first | exact HB.out | apply below_alloc | apply pw_below_drewN | apply below_drew1) | exact HB.out)) hb); have n3_ := Aside0.mk (hbox); have n4_ := Aside0.mk ((by rw [hg]; exact (below_size (by repeat (first | (with_reducible first | exact HB.out | apply below_alloc | apply pw_below_drewN | apply below_drew1) | exact HB.out))) : w.heap.size ≤ gb148)); have n5_ := Aside0.mk ((by rw [hg]; exact (below_size (by repeat (first | (with_reducible first | exact HB.out | apply below_alloc | apply pw_below_drewN | apply below_drew1) | exact HB.out))) : w.heap.size ≤ gb148)); clear HO142; clear HO145; clear HB; have HO142 := n0_; have HO145 := n1_; have HB := n2_; have BK148 := n3_; have GW148 := n4_; have GE148 := n5_; clear n0_ n1_ n2_ n3_ n4_ n5_; clear hb hbox hg; obtain ⟨Ao12, co12, eo12⟩ := Kd.R_slice HO142.out; subst eo12; have hcz13_0 : w11.cell? ⟨gb148, 0, none⟩ = some (.slice none 0 0) := (blk_cell BK148.out 0).trans rfl; have hcz13_1 : w11.cell? ⟨gb148, 1, none⟩ = some (.slice none 0 0) := (blk_cell BK148.out 1).trans rfl; have hfz13_0 := blk_frozen BK148.out 0; have hfz13_1 := blk_frozen BK148.out 1; obtain ⟨Ao14, co14, eo14⟩ := Kd.R_slice HO145.out; subst eo14) | ((with_reducible refine gate_store (t := 26) (p := 1) rfl ?_); refine store_event (t := 26) (p := 1) (v := ?vo_w15) (w1 := ((w11.setCell ⟨gb148, 0, none⟩ (.slice Ao12 t140.length co12)).setCell ⟨gb148, 1, none⟩ (.slice Ao14 t143.length co14))) ?hg ?ho ?hn ?hr ?_; (case ho => rfl); (case hg => rfl); (case hn => rfl); (case hr => first | (go_simp; done) | (go_simp; rfl)); intro w15 hw; have n0_ : Aside0 (Kd.R k40 40 w15 w.heap.size (fun _ => True) (.slice Ao12 t140.length co12) t140) := ⟨(by rw [hw]; exact (by (with_reducible repeat (first | apply Kd.R_alloc | apply Kd.R_drewN | apply Kd.R_drew)); exact Kd.R_mono (Kd.R_far (p := ⟨gb148, 1, none⟩) (Kd.R_far (p := ⟨gb148, 0, none⟩) (Kd.R_types HO142.out BK148.out (by decide)) (fun _ hk => hk.2) (.slice Ao12 t140.length co12)) (fun _ hk => hk.2) (.slice Ao14 t143.length co14)) (fun _ hk => trivial)))⟩; have n1_ : Aside0 (Kd.R k71 71 w15 w.heap.size (fun _ => True) (.slice Ao14 t143.length co14) t143) := ⟨(by rw [hw]; exact (by (with_reducible repeat (first | apply Kd.R_alloc | apply Kd.R_drewN | apply Kd.R_drew)); exact Kd.R_mono (Kd.R_far (p := ⟨gb148, 1, none⟩) (Kd.R_far (p := ⟨gb148, 0, none⟩) (Kd.R_types HO145.out BK148.out (by decide)) (fun _ hk => hk.2) (.slice Ao12 t140.length co12)) (fun _ hk => hk.2) (.slice Ao14 t143.length co14)) (fun _ hk => trivial)))⟩; have n2_ : Aside0 (w15.heap[gb148]? = some (.cells #[.slice Ao12 t140.length co12, .slice Ao14 t143.length co14] 26 (0, 0))) := ⟨(by rw [hw]; exact (by (with_reducible repeat (first | refine blk_drewN ?_ _ | refine blk_drew ?_ | refine blk_alloc ?_ _)); refine blk_put (cs := #[.slice Ao12 t140.length co12, .slice none 0 0]) ?_ 1 _ rfl; (with_reducible repeat (first | refine blk_drewN ?_ _ | refine blk_drew ?_ | refine blk_alloc ?_ _)); refine blk_put (cs := #[.slice none 0 0, .slice none 0 0]) ?_ 0 _ rfl; (with_reducible repeat (first | refine blk_drewN ?_ _ | refine blk_drew ?_ | refine blk_alloc ?_ _)); exact BK148.out))⟩; have n3_ : Aside0 (Below w.heap.size w w15) := ⟨(by rw [hw]; exact (by repeat (first | (with_reducible first | exact HB.out | apply below_alloc | apply pw_below_drewN | apply below_drew1 | refine below_set ?_ GE148.out) | exact HB.out)))⟩; clear hw; clear HO142; clear HO145; clear BK148; clear HB; have HO142 := n0_; have HO145 := n1_; have BK148 := n2_; have HB := n3_; clear n0_ n1_ n2_ n3_; have hcz16_0 : w15.cell? ⟨gb148, 0, none⟩ = some (.slice Ao12 t140.length co12) := (blk_cell BK148.out 0).trans rfl; have hcz16_1 : w15.cell? ⟨gb148, 1, none⟩ = some (.slice Ao14 t143.length co14) := (blk_cell BK148.out 1).trans rfl; have hfz16_0 := blk_frozen BK148.out 0; have hfz16_1 := blk_frozen BK148.out 1; have p149 : 0 ≤ (0 : Int) := (by omega); have q149 : 0 < (t140.length : Int) := of_decide_eq_true (by first | (with_reducible assumption) | assumption); obtain ⟨ad149, A149_1, c149_1, A149_2, c149_2, A149_3, c149_3, e149, hx149_0, hx149_1, hx149_2, hx149_3, hx149_4, hl149_1, hi149_1, hl149_2, hi149_2, hl149_3, hi149_3⟩ := at_T40 (Kd.R_reads' HO142.out).2.2 0 p149 q149; cases e149; obtain ⟨ce149, hce149, hMe149, hcc149⟩ := Kd.R_get HO142.out z40 0 p149 (by first | exact q149 | exact of_decide_eq_true (by first | (with_reducible assumption) | assumption) | (have e_ := (Kd.R_reads' HO142.out).1; omega)); obtain ⟨ve149_1, ve149_2, ve149_3, rfl, ge149_1, ge149_2, ge149_3⟩ := k40_openM hMe149; have hv149_1 := hcc149 1 _ rfl; rw [add_field _ _ 1 (by omega)] at hv149_1; replace hv149_1 := Option.some.inj (hv149_1.symm.trans hx149_1); rw [hv149_1] at ge149_1; have HL149_1 := Aside0.mk (show Kd.R k42 42 _ _ _ _ ((rd_T40 t140 0).f1) from ge149_1); clear hv149_1 ge149_1; have hv149_2 := hcc149 2 _ rfl; rw [add_field _ _ 2 (by omega)] at hv149_2; replace hv149_2 := Option.some.inj (hv149_2.symm.trans hx149_2); rw [hv149_2] at ge149_2; have HL149_2 := Aside0.mk (show Kd.R Kd.string 9 _ _ _ _ ((rd_T40 t140 0).f2) from ge149_2); clear hv149_2 ge149_2; have hv149_3 := hcc149 3 _ rfl; rw [add_field _ _ 3 (by omega)] at hv149_3; replace hv149_3 := Option.some.inj (hv149_3.symm.trans hx149_3); rw [hv149_3] at ge149_3; have HL149_3 := Aside0.mk (show Kd.R (Kd.int .i64) 2 _ _ _ _ ((rd_T40 t140 0).f3) from ge149_3); clear hv149_3 ge149_3; clear hcc149 hce149; have qi149 : (0 < t140.length) = True := eq_true (by omega); (try rw [show ((0 : Int)).toNat = 0 from rfl] at hx149_0); (try rw [show 0 * 5 = 0 from rfl] at hx149_0); (try rw [Addr.add_zero'] at hx149_0); (try rw [show ((0 : Int)).toNat = 0 from rfl] at hx149_1); (try rw [show 0 * 5 = 0 from rfl] at hx149_1); (try rw [Addr.add_zero'] at hx149_1); (try rw [show ((0 : Int)).toNat = 0 from rfl] at hx149_2); (try rw [show 0 * 5 = 0 from rfl] at hx149_2); (try rw [Addr.add_zero'] at hx149_2); (try rw [show ((0 : Int)).toNat = 0 from rfl] at hx149_3); (try rw [show 0 * 5 = 0 from rfl] at hx149_3); (try rw [Addr.add_zero'] at hx149_3); (try rw [show ((0 : Int)).toNat = 0 from rfl] at hx149_4); (try rw [show 0 * 5 = 0 from rfl] at hx149_4); (try rw [Addr.add_zero'] at hx149_4); have HR149_1 := Aside0.mk hi149_1; have HC149_1 := Aside0.mk hl149_1; clear hi149_1 hl149_1; have HR149_2 := Aside0.mk hi149_2; have HC149_2 := Aside0.mk hl149_2; clear hi149_2 hl149_2; have HR149_3 := Aside0.mk hi149_3; have HC149_3 := Aside0.mk hl149_3; clear hi149_3 hl149_3; replace p149 := eq_true p149; replace q149 := eq_true q149; have p150 : 0 ≤ (0 : Int) := (by omega); have q150 : 0 < (t140.length : Int) := of_decide_eq_true (by first | (with_reducible assumption) | assumption); obtain ⟨ad150, A150_1, c150_1, A150_2, c150_2, A150_3, c150_3, e150, hx150_0, hx150_1, hx150_2, hx150_3, hx150_4, hl150_1, hi150_1, hl150_2, hi150_2, hl150_3, hi150_3⟩ := at_T40 (Kd.R_reads' HO142.out).2.2 0 p150 q150; obtain rfl : ad149 = ad150 := (by injection e150); obtain ⟨ce150, hce150, hMe150, hcc150⟩ := Kd.R_get HO142.out z40 0 p150 (by first | exact q150 | exact of_decide_eq_true (by first | (with_reducible assumption) | assumption) | (have e_ := (Kd.R_reads' HO142.out).1; omega)); obtain ⟨ve150_1, ve150_2, ve150_3, rfl, ge150_1, ge150_2, ge150_3⟩ := k40_openM hMe150; have hv150_1 := hcc150 1 _ rfl; rw [add_field _ _ 1 (by omega)] at hv150_1; replace hv150_1 := Option.some.inj (hv150_1.symm.trans hx150_1); rw [hv150_1] at ge150_1; have HL150_1 := Aside0.mk (show Kd.R k42 42 _ _ _ _ ((rd_T40 t140 0).f1) from ge150_1); clear hv150_1 ge150_1; have hv150_2 := hcc150 2 _ rfl; rw [add_field _ _ 2 (by omega)] at hv150_2; replace hv150_2 := Option.some.inj (hv150_2.symm.trans hx150_2); rw [hv150_2] at ge150_2; have HL150_2 := Aside0.mk (show Kd.R Kd.string 9 _ _ _ _ ((rd_T40 t140 0).f2) from ge150_2); clear hv150_2 ge150_2; have hv150_3 := hcc150 3 _ rfl; rw [add_field _ _ 3 (by omega)] at hv150_3; replace hv150_3 := Option.some.inj (hv150_3.symm.trans hx150_3); rw [hv150_3] at ge150_3; have HL150_3 := Aside0.mk (show Kd.R (Kd.int .i64) 2 _ _ _ _ ((rd_T40 t140 0).f3) from ge150_3); clear hv150_3 ge150_3; clear hcc150 hce150; have qi150 : (0 < t140.length) = True := eq_true (by omega); (try rw [show ((0 : Int)).toNat = 0 from rfl] at hx150_0); (try rw [show 0 * 5 = 0 from rfl] at hx150_0); (try rw [Addr.add_zero'] at hx150_0); (try rw [show ((0 : Int)).toNat = 0 from rfl] at hx150_1); (try rw [show 0 * 5 = 0 from rfl] at hx150_1); (try rw [Addr.add_zero'] at hx150_1); (try rw [show ((0 : Int)).toNat = 0 from rfl] at hx150_2); (try rw [show 0 * 5 = 0 from rfl] at hx150_2); (try rw [Addr.add_zero'] at hx150_2); (try rw [show ((0 : Int)).toNat = 0 from rfl] at hx150_3); (try rw [show 0 * 5 = 0 from rfl] at hx150_3); (try rw [Addr.add_zero'] at hx150_3); (try rw [show ((0 : Int)).toNat = 0 from rfl] at hx150_4); (try rw [show 0 * 5 = 0 from rfl] at hx150_4); (try rw [Addr.add_zero'] at hx150_4); have HR150_1 := Aside0.mk hi150_1; have HC150_1 := Aside0.mk hl150_1; clear hi150_1 hl150_1; have HR150_2 := Aside0.mk hi150_2; have HC150_2 := Aside0.mk hl150_2; clear hi150_2 hl150_2; have HR150_3 := Aside0.mk hi150_3; have HC150_3 := Aside0.mk hl150_3; clear hi150_3 hl150_3; replace p150 := eq_true p150; replace q150 := eq_true q150; have ea_ := Option.some.inj (hx149_1.symm.trans hx150_1); injection ea_ with ea_ en_ ec_; subst ea_; subst ec_; clear en_; have ea_ := Option.some.inj (hx149_2.symm.trans hx150_2); injection ea_ with ea_ en_ ec_; subst ea_; subst ec_; clear en_; have ea_ := Option.some.inj (hx149_3.symm.trans hx150_3); injection ea_ with ea_ en_ ec_; subst ea_; subst ec_; clear en_; have p151 : 0 ≤ (0 : Int) := (by omega); have q151 : 0 < (((rd_T40 t140 0).f1).length : Int) := of_decide_eq_true (by first | (with_reducible assumption) | assumption); obtain ⟨ad151, e151, hx151_0, hx151_1, hx151_2, hx151_3, hx151_4, hx151_5, hx151_6⟩ := at_T42 (by repeat (first | (with_reducible exact HR150_1.out) | (with_reducible refine Kd.C_alloc ?_ _) | (with_reducible refine Kd.C_drewN ?_ _) | (with_reducible refine Kd.C_drew ?_) | exact HR150_1.out)) 0 p151 q151; cases e151; have qi151 : (0 < ((rd_T40 t140 0).f1).length) = True := eq_true (by omega); (try rw [show ((0 : Int)).toNat = 0 from rfl] at hx151_0); (try rw [show 0 * 7 = 0 from rfl] at hx151_0); (try rw [Addr.add_zero'] at hx151_0); (try rw [show ((0 : Int)).toNat = 0 from rfl] at hx151_1); (try rw [show 0 * 7 = 0 from rfl] at hx151_1); (try rw [Addr.add_zero'] at hx151_1); (try rw [show ((0 : Int)).toNat = 0 from rfl] at hx151_2); (try rw [show 0 * 7 = 0 from rfl] at hx151_2); (try rw [Addr.add_zero'] at hx151_2); (try rw [show ((0 : Int)).toNat = 0 from rfl] at hx151_3); (try rw [show 0 * 7 = 0 from rfl] at hx151_3); (try rw [Addr.add_zero'] at hx151_3); (try rw [show ((0 : Int)).toNat = 0 from rfl] at hx151_4); (try rw [show 0 * 7 = 0 from rfl] at hx151_4); (try rw [Addr.add_zero'] at hx151_4); (try rw [show ((0 : Int)).toNat = 0 from rfl] at hx151_5); (try rw [show 0 * 7 = 0 from rfl] at hx151_5); (try rw [Addr.add_zero'] at hx151_5); (try rw [show ((0 : Int)).toNat = 0 from rfl] at hx151_6); (try rw [show 0 * 7 = 0 from rfl] at hx151_6); (try rw [Addr.add_zero'] at hx151_6); replace p151 := eq_true p151; replace q151 := eq_true q151) | (go_at_call 7; (with_reducible refine (proto_Print.calls _ _ t140 _ _ t143 t152 _ ?side1 ?side2 ?side3 ?side4 ?side5 A9.out).mono ?_); (case side1 => exact hG.below (by repeat (first | (with_reducible first | exact HB.out | apply below_alloc | apply pw_below_drewN | apply below_drew1 | refine below_set ?_ GE148.out) | exact HB.out))); (case side2 => repeat (first | exact (Kd.R_reads' HO142.out).2.2 | (with_reducible refine Kd.C_alloc ?_ _) | (with_reducible refine Kd.C_drewN ?_ _) | (with_reducible refine Kd.C_drew ?_))); (case side3 => exact (Kd.R_reads' HO142.out).2.1); (case side4 => repeat (first | exact (Kd.R_reads' HO145.out).2.2 | (with_reducible refine Kd.C_alloc ?_ _) | (with_reducible refine Kd.C_drewN ?_ _) | (with_reducible refine Kd.C_drew ?_))); (case side5 => exact (Kd.R_reads' HO145.out).2.1); rintro e w17 ⟨rfl, hb⟩; have n0_ := Aside0.mk (Kd.R_below (by (with_reducible repeat (first | apply Kd.R_alloc | apply Kd.R_drewN | apply Kd.R_drew)); exact HO142.out) hb); have n1_ := Aside0.mk (Kd.R_below (by (with_reducible repeat (first | apply Kd.R_alloc | apply Kd.R_drewN | apply Kd.R_drew)); exact HO145.out) hb); have n2_ := Aside0.mk (Kd.R_below (by (with_reducible repeat (first | apply Kd.R_alloc | apply Kd.R_drewN | apply Kd.R_drew)); exact HL149_1.out) hb); have n3_ := Aside0.mk (Kd.R_below (by (with_reducible repeat (first | apply Kd.R_alloc | apply Kd.R_drewN | apply Kd.R_drew)); exact HL149_2.out) hb); have n4_ := Aside0.mk (Kd.R_below (by (with_reducible repeat (first | apply Kd.R_alloc | apply Kd.R_drewN | apply Kd.R_drew)); exact HL149_3.out) hb); have n5_ := Aside0.mk (Kd.R_below (by (with_reducible repeat (first | apply Kd.R_alloc | apply Kd.R_drewN | apply Kd.R_drew)); exact HL150_1.out) hb); have n6_ := Aside0.mk (Kd.R_below (by (with_reducible repeat (first | apply Kd.R_alloc | apply Kd.R_drewN | apply Kd.R_drew)); exact HL150_2.out) hb); have n7_ := Aside0.mk (Kd.R_below (by (with_reducible repeat (first | apply Kd.R_alloc | apply Kd.R_drewN | apply Kd.R_drew)); exact HL150_3.out) hb); have n8_ := Aside0.mk (blk_below (g := gb148) (o := .cells #[.slice (some ad149) t140.length co12, .slice Ao14 t143.length co14] 26 (0, 0)) (by (with_reducible repeat (first | refine blk_drewN ?_ _ | refine blk_drew ?_ | refine blk_alloc ?_ _)); exact BK148.out) hb); have n9_ := Aside0.mk (Kd.C_below (by repeat (first | (with_reducible exact HR149_1.out) | (with_reducible refine Kd.C_alloc ?_ _) | (with_reducible refine Kd.C_drewN ?_ _) | (with_reducible refine Kd.C_drew ?_) | exact HR149_1.out)) hb); have n10_ := Aside0.mk (Kd.C_below (by repeat (first | (with_reducible exact HR149_2.out) | (with_reducible refine Kd.C_alloc ?_ _) | (with_reducible refine Kd.C_drewN ?_ _) | (with_reducible refine Kd.C_drew ?_) | exact HR149_2.out)) hb); have n11_ := Aside0.mk (Kd.C_below (by repeat (first | (with_reducible exact HR149_3.out) | (with_reducible refine Kd.C_alloc ?_ _) | (with_reducible refine Kd.C_drewN ?_ _) | (with_reducible refine Kd.C_drew ?_) | exact HR149_3.out)) hb); have n12_ := Aside0.mk (Kd.C_below (by repeat (first | (with_reducible exact HR150_1.out) | (with_reducible refine Kd.C_alloc ?_ _) | (with_reducible refine Kd.C_drewN ?_ _) | (with_reducible refine Kd.C_drew ?_) | exact HR150_1.out)) hb); have n13_ := Aside0.mk (Kd.C_below (by repeat (first | (with_reducible exact HR150_2.out) | (with_reducible refine Kd.C_alloc ?_ _) | (with_reducible refine Kd.C_drewN ?_ _) | (with_reducible refine Kd.C_drew ?_) | exact HR150_2.out)) hb); have n14_ := Aside0.mk (Kd.C_below (by repeat (first | (with_reducible exact HR150_3.out) | (with_reducible refine Kd.C_alloc ?_ _) | (with_reducible refine Kd.C_drewN ?_ _) | (with_reducible refine Kd.C_drew ?_) | exact HR150_3.out)) hb); have n15_ := Aside0.mk (below_step (by repeat (first | (with_reducible first | exact HB.out | apply below_alloc | apply pw_below_drewN | apply below_drew1 | refine below_set ?_ GE148.out) | exact HB.out)) hb); clear HO142; clear HO145; clear HL149_1; clear HL149_2; clear HL149_3; clear HL150_1; clear HL150_2; clear HL150_3; clear BK148; clear HR149_1; clear HR149_2; clear HR149_3; clear HR150_1; clear HR150_2; clear HR150_3; clear HB; have HO142 := n0_; have HO145 := n1_; have HL149_1 := n2_; have HL149_2 := n3_; have HL149_3 := n4_; have HL150_1 := n5_; have HL150_2 := n6_; have HL150_3 := n7_; have BK148 := n8_; have HR149_1 := n9_; have HR149_2 := n10_; have HR149_3 := n11_; have HR150_1 := n12_; have HR150_2 := n13_; have HR150_3 := n14_; have HB := n15_; clear n0_ n1_ n2_ n3_ n4_ n5_ n6_ n7_ n8_ n9_ n10_ n11_ n12_ n13_ n14_ n15_; (try clear hb); (try clear hb2); (try clear hk); (try clear hi)))
                go_ret
                exact ⟨by first | rfl | (rw [hv_]; done) | (simp [hv_]; done) | (simp [← hv_]; done) | (simp [] <;> rfl) | (simp [*] <;> rfl), by repeat (first | (with_reducible first | exact HB.out | apply below_alloc | apply pw_below_drewN | apply below_drew1 | refine below_set ?_ GE148.out) | exact HB.out)⟩
              · rw [if_neg c8] at H
                have c8b0 : (((rd_T42 ((rd_T40 t140 0).f1) 0).f4).toList == ([97] : List UInt8)) = false := beq_eq_false_iff_ne.mpr c8
                have c8b1 : (((rd_T42 ((rd_T40 t140 0).f1) 0).f4).toList != ([97] : List UInt8)) = true := bne_iff_ne.mpr c8
                exact absurd (Option.some.inj H) Bool.false_ne_true
            · rw [if_neg c7] at H
              exact absurd H (by simp)
          · rw [if_neg c6] at H
            have c6b0 : ((((rd_T40 t140 0).f1).length : Int) == 1) = false := beq_eq_false_iff_ne.mpr c6
            have c6b1 : ((((rd_T40 t140 0).f1).length : Int) != 1) = true := bne_iff_ne.mpr c6
            exact absurd (Option.some.inj H) Bool.false_ne_true
        · rw [if_neg c5] at H
          exact absurd H (by simp)
      · rw [if_neg c4] at H
        have c4b0 : ((t140.length : Int) == 1) = false := beq_eq_false_iff_ne.mpr c4
        have c4b1 : ((t140.length : Int) != 1) = true := bne_iff_ne.mpr c4
        exact absurd (Option.some.inj H) Bool.false_ne_true
    · rw [if_neg c3] at H
      have c3b0 : (t146 == 26) = false := beq_eq_false_iff_ne.mpr c3
      have c3b1 : (t146 != 26) = true := bne_iff_ne.mpr c3
      exact absurd (Option.some.inj H) Bool.false_ne_true
  · rw [if_neg c2] at H
    have c2b0 : (t147 == 0) = false := beq_eq_false_iff_ne.mpr c2
    have c2b1 : (t147 != 0) = true := bne_iff_ne.mpr c2
    exact absurd (Option.some.inj H) Bool.false_ne_true
end Go.Proofs.YtddpjjhekhompaaDoor.P
namespace Go.Proofs.YtddpjjhekhompaaDoor.P
open Go.RowKit Go.Proofs.YtddpjjhekhompaaDoorW.PrintWords Go.Proofs.YtddpjjhekhompaaDoorW.PrintLast Go.Proofs.YtddpjjhekhompaaDoorW.PrintMore
set_option linter.unusedVariables false
set_option linter.unusedSimpArgs false
theorem itoa_1 : Lib.itoa 1 = [49] := by
  have h := Lib.itoa_nonneg 1
  have e : Lib.decDigits 1 = [49] := by rw [Lib.decDigits_one (by omega)]; decide
  rw [e] at h
  exact h
theorem parse_1 : Lib.parseIntB 64 [49] = .ok 1 := by decide
theorem numOk_1 : numOk [49] = true := by
  unfold numOk
  rw [parse_1]
  simp only [itoa_1, decide_true]
theorem numV_1 : numV [49] = 1 := by unfold numV; rw [parse_1]
theorem lex_1 : lex1 [49, 59, 32, 125] = some (1, [49], 1, 1) := by
  rw [lex1_cons, if_neg (by decide), if_neg (by decide), if_pos (by decide)]
  have e : List.take (runN numU [49, 59, 32, 125]) ([49, 59, 32, 125] : List UInt8) = [49] := by decide
  have e2 : runN numU [49, 59, 32, 125] = 1 := by decide
  rw [e, numOk_1, numV_1, if_pos rfl, e2]
def exText : ByteArray := ⟨#[109, 101, 115, 115, 97, 103, 101, 32, 65, 32, 123, 32, 105, 110, 116, 54, 52, 32, 97, 32, 61, 32, 49, 59, 32, 125]⟩
def exToks : List TokS := [⟨0, ⟨#[109, 101, 115, 115, 97, 103, 101]⟩, 0, 0⟩, ⟨0, ⟨#[65]⟩, 0, 8⟩, ⟨3, ⟨#[123]⟩, 0, 10⟩, ⟨0, ⟨#[105, 110, 116, 54, 52]⟩, 0, 12⟩, ⟨0, ⟨#[97]⟩, 0, 18⟩, ⟨3, ⟨#[61]⟩, 0, 20⟩, ⟨1, ⟨#[49]⟩, 1, 22⟩, ⟨3, ⟨#[59]⟩, 0, 23⟩, ⟨3, ⟨#[125]⟩, 0, 25⟩]
theorem allF_exP : allF exText = (exToks, 26, 0) := by
  have e1 : lex1 [109, 101, 115, 115, 97, 103, 101, 32, 65, 32, 123, 32, 105, 110, 116, 54, 52, 32, 97, 32, 61, 32, 49, 59, 32, 125] = some (0, [109, 101, 115, 115, 97, 103, 101], 0, 7) := by decide
  have e2 : lex1 [65, 32, 123, 32, 105, 110, 116, 54, 52, 32, 97, 32, 61, 32, 49, 59, 32, 125] = some (0, [65], 0, 1) := by decide
  have e3 : lex1 [123, 32, 105, 110, 116, 54, 52, 32, 97, 32, 61, 32, 49, 59, 32, 125] = some (3, [123], 0, 1) := by decide
  have e4 : lex1 [105, 110, 116, 54, 52, 32, 97, 32, 61, 32, 49, 59, 32, 125] = some (0, [105, 110, 116, 54, 52], 0, 5) := by decide
  have e5 : lex1 [97, 32, 61, 32, 49, 59, 32, 125] = some (0, [97], 0, 1) := by decide
  have e6 : lex1 [61, 32, 49, 59, 32, 125] = some (3, [61], 0, 1) := by decide
  have e8 : lex1 [59, 32, 125] = some (3, [59], 0, 1) := by decide
  have e9 : lex1 [125] = some (3, [125], 0, 1) := by decide
  have s0 : skipN false [109, 101, 115, 115, 97, 103, 101, 32, 65, 32, 123, 32, 105, 110, 116, 54, 52, 32, 97, 32, 61, 32, 49, 59, 32, 125] = 0 := by decide
  have s1 : skipN false [32, 65, 32, 123, 32, 105, 110, 116, 54, 52, 32, 97, 32, 61, 32, 49, 59, 32, 125] = 1 := by decide
  have s2 : skipN false [32, 123, 32, 105, 110, 116, 54, 52, 32, 97, 32, 61, 32, 49, 59, 32, 125] = 1 := by decide
  have s3 : skipN false [32, 105, 110, 116, 54, 52, 32, 97, 32, 61, 32, 49, 59, 32, 125] = 1 := by decide
  have s4 : skipN false [32, 97, 32, 61, 32, 49, 59, 32, 125] = 1 := by decide
  have s5 : skipN false [32, 61, 32, 49, 59, 32, 125] = 1 := by decide
  have s6 : skipN false [32, 49, 59, 32, 125] = 1 := by decide
  have s7 : skipN false [59, 32, 125] = 0 := by decide
  have s8 : skipN false [32, 125] = 1 := by decide
  have s9 : skipN false [] = 0 := by decide
  have b : bl exText = [109, 101, 115, 115, 97, 103, 101, 32, 65, 32, 123, 32, 105, 110, 116, 54, 52, 32, 97, 32, 61, 32, 49, 59, 32, 125] := rfl
  have z : exText.size = 26 := rfl
  unfold allF allL
  rw [z, if_neg (by omega), b, s0]
  simp only [List.length_cons, List.length_nil, List.drop_zero, lexL, e1, e2, e3, e4, e5, e6, lex_1, e8, e9, s1, s2, s3, s4, s5, s6, s7, s8, s9, List.drop_succ_cons, List.drop_nil, endL, List.nil_append, z]
  rfl
def exF : FieldS := ⟨⟨#[105, 110, 116, 54, 52]⟩, ⟨#[]⟩, false, 0, ⟨#[97]⟩, 1, 12⟩
def exM : MsgS := ⟨⟨#[65]⟩, [exF], [], [], 0⟩
theorem parse_exP : parseF exText = (([exM], []), 26, 0) := by
  have z : exText.size = 26 := rfl
  have h : pAll 26 exToks = (([exM], []), ⟨[], false⟩) := by rfl
  unfold parseF
  rw [allF_exP, z]
  show (if ((0 : Int) ≠ 0) then _ else if (pAll 26 exToks).2.b = true then _ else ((pAll 26 exToks).1, (26 : Int), (0 : Int))) = _
  rw [if_neg (by decide), h]
  rfl
theorem dig_1 : dig 1 = ⟨#[49]⟩ := by unfold dig; rw [itoa_1]
theorem print_exP : printL [exM] [] = [109, 101, 115, 115, 97, 103, 101, 32, 65, 32, 123, 10, 32, 32, 105, 110, 116, 54, 52, 32, 97, 32, 61, 32, 49, 59, 10, 125, 10] := by
  have h0 : fieldParts exF = [⟨#[105, 110, 116, 54, 52]⟩, ⟨#[32]⟩, ⟨#[97]⟩, ⟨#[32, 61, 32]⟩, ⟨#[49]⟩, ⟨#[59]⟩] := by
    unfold fieldParts
    rw [show exF.f5 = 1 from rfl, dig_1]
    have hk : kindB exF = ⟨#[105, 110, 116, 54, 52]⟩ := by
      unfold kindB
      rw [if_neg (by rw [show exF.f1 = (⟨#[]⟩ : ByteArray) from rfl, toList_bl]; decide), if_neg (by decide)]
      rfl
    rw [hk]
    rfl
  have h1 : outL exM exM.f1.length = lineL 1 [⟨#[105, 110, 116, 54, 52]⟩, ⟨#[32]⟩, ⟨#[97]⟩, ⟨#[32, 61, 32]⟩, ⟨#[49]⟩, ⟨#[59]⟩] := by
    show [] ++ pieceL exM 0 exF = _
    unfold pieceL
    rw [if_pos (by decide), h0]
    rfl
  unfold printL flatL
  show ([msgL exM] : List (List UInt8)).flatten ++ [] = _
  unfold msgL
  rw [h1]
  rfl
theorem ok_exP : PrintOk [exM] [] := by
  refine ⟨fun m hm => ?_, fun e he => absurd he List.not_mem_nil, ?_⟩
  · obtain rfl := List.mem_singleton.1 hm
    refine ⟨fun f hf => ?_, fun n hn => absurd hn List.not_mem_nil, by decide, by decide⟩
    obtain rfl := List.mem_singleton.1 hf
    unfold rngI
    decide
  · rw [print_exP]
    decide
theorem awake07_true : trufflelaw07_awake.f = some true := by
  unfold trufflelaw07_awake.f proto_Parse.f
  have hp := parse_exP
  unfold exText at hp
  rw [hp, Option.bind_some]
  have hpr : proto_Print.f [exM] [] = some ⟨#[109, 101, 115, 115, 97, 103, 101, 32, 65, 32, 123, 10, 32, 32, 105, 110, 116, 54, 52, 32, 97, 32, 61, 32, 49, 59, 10, 125, 10]⟩ := by
    unfold proto_Print.f
    rw [if_pos ok_exP, print_exP]
  have h4 : ((rd_T42 ((rd_T40 [exM] 0).f1) 0).f4).toList = [97] := by rw [toList_bl]; rfl
  rw [if_pos (by rfl), if_pos (by rfl), if_pos (by rfl), if_pos (by decide), if_pos (by rfl), if_pos (by decide), if_pos h4, hpr]
  simp only [Option.bind_some, toList_bl]
  rfl
theorem trufflelaw07_awake.calls (r : Bool) (w : World) (hG : GInv w) (h : trufflelaw07_awake.f = some r) :
    Calls Tryd.prog 4 #[] w fun e w' => e = .returned (.bool r) ∧ Below w.heap.size w w' := by
  have hr : r = true := by rw [awake07_true] at h; exact (Option.some.inj h).symm
  subst hr
  exact trufflelaw07_awake.callsT w hG h
end Go.Proofs.YtddpjjhekhompaaDoor.P
