/- Part 4 of what the law SexpMay leans on: contracts of the functions that it reaches, and plain lemmas; printed walks and words (by the kit's print, through wip/mp.py) and the session's own texts, one behind the other, what is not used left out (wip/prune.py). -/
import Derived.StillTailTactics
import Derived.Lib.Join
import Derived.Lib.ItoaMem
import Derived.Deep.DeepWitnessRowRef
import Derived.Stop.LaidErr
import Derived.Lib.LaidTab
import Derived.LaidLaws
import Derived.MakeChecks
import Derived.Test.YtngcojabofkbjaaDoorRows
import Derived.Test.YtngcojabofkbjaaDoorMSexpMay1
import Derived.Test.YtngcojabofkbjaaDoorMSexpMay2
import Derived.Test.YtngcojabofkbjaaDoorMSexpMay3
namespace Go.Proofs.YtngcojabofkbjaaDoor.P
open Go.RowKit Go.Proofs.YtngcojabofkbjaaDoorW.PrintWords Go.Proofs.YtngcojabofkbjaaDoorW.PrintLast Go.Proofs.YtngcojabofkbjaaDoorW.PrintMore
set_option linter.unusedVariables false
set_option linter.unusedSimpArgs false
def ParsePost (w : World) (r : NodeS × Int × Int) (e : Ending) (w' : World) : Prop := ∃ v4 : Value, e = .returned (.tuple #[.agg #[.int .i64 r.1.f0, .string r.1.f1, .int .i64 r.1.f2, .int .i64 r.1.f3, v4], .int .i64 r.2.1, .int .i64 r.2.2]) ∧ Kd.R k39 39 w' w.heap.size (fun _ => True) v4 r.1.f4 ∧ Below w.heap.size w w'
theorem sexpParse_ret {w V : World} {tmps : Array Value} {r : NodeS × Int × Int} {v4 : Value} (ht : tmps.getD 2 undef = .pointer (some ⟨w.heap.size, 0, none⟩)) (h3 : tmps.getD 3 undef = .int .i64 r.2.1) (h4 : tmps.getD 4 undef = .int .i64 r.2.2)
    (hb : V.heap[w.heap.size]? = some (.cells #[.int .i64 r.1.f0, .string r.1.f1, .int .i64 r.1.f2, .int .i64 r.1.f3, v4] 39 (0, 0))) (hR : Kd.R k39 39 V w.heap.size (fun _ => True) v4 r.1.f4) (hB : Below w.heap.size w V) :
    bodyPost Tryd.prog Tryd.f24 (ParsePost w r) .ret { tmps := tmps, defers := [] } V := by
  refine bodyPost_ret (results_ctt rfl _ _ w.heap.size 39 _ (0, 0) _ ht hb Tryd.underlying39 rfl (by kernel_rfl)) rfl ⟨v4, ?_, hR, hB⟩
  rw [h3, h4]
theorem box_put5 {V : World} {g : Nat} {t : TypeId} {c0 c1 c2 c3 c4 : Value} (h : V.heap[g]? = some (.cells #[c0, c1, c2, c3, c4] t (0, 0))) (u0 u1 u2 u3 u4 : Value) :
    (((((V.setCell ⟨g, 0, none⟩ u0).setCell ⟨g, 1, none⟩ u1).setCell ⟨g, 2, none⟩ u2).setCell ⟨g, 3, none⟩ u3).setCell ⟨g, 4, none⟩ u4).heap[g]? = some (.cells #[u0, u1, u2, u3, u4] t (0, 0)) :=
  blk_set (blk_set (blk_set (blk_set (blk_set h 0 u0) 1 u1) 2 u2) 3 u3) 4 u4
theorem set5_below {B : Nat} {W V : World} {g : Nat} (h : Below B W V) (hg : B ≤ g) (u0 u1 u2 u3 u4 : Value) : Below B W (((((V.setCell ⟨g, 0, none⟩ u0).setCell ⟨g, 1, none⟩ u1).setCell ⟨g, 2, none⟩ u2).setCell ⟨g, 3, none⟩ u3).setCell ⟨g, 4, none⟩ u4) :=
  ((((h.setCell (p := ⟨g, 0, none⟩) hg u0).setCell (p := ⟨g, 1, none⟩) hg u1).setCell (p := ⟨g, 2, none⟩) hg u2).setCell (p := ⟨g, 3, none⟩) hg u3).setCell (p := ⟨g, 4, none⟩) hg u4
set_option maxRecDepth 100000 in
set_option maxHeartbeats 8000000 in
theorem sexpParse_err (s : ByteArray) (w : World) (hG : GInv w) (he : (allF s).2.2 ≠ 0) : Calls Tryd.prog 24 #[.string s] w (ParsePost w (zN, (allF s).2.1, (allF s).2.2)) := by
  have HA := Aside0.mk (fun (W : World) (h : GInv W) => token_All.calls s (allF s).1 (allF s).2.1 (allF s).2.2 W h rfl)
  have HG := Aside0.mk (hG.below (below_alloc (Below.refl _ w) (.cells #[.int .i64 0, .string ⟨#[]⟩, .int .i64 0, .int .i64 0, .slice none 0 0] 39)))
  have hn : ((allF s).2.2 != 0) = true := bne_iff_ne.2 he
  clear he hG
  generalize (allF s).1 = l at *
  generalize (allF s).2.1 = p at *
  generalize (allF s).2.2 = e at *
  go_enter Tryd.func24, Tryd.ntmps24
  go_wp2_with (go_at_call 16; refine (HA.out _ HG.out).mono ?_; rintro e1 W1 ⟨v0, rfl, hR, hB⟩; have hb0 := blk_below (blk_new w (.cells #[.int .i64 0, .string ⟨#[]⟩, .int .i64 0, .int .i64 0, .slice none 0 0] 39)) hB; have q0 := (blk_cell hb0 0).trans rfl; have q1 := (blk_cell hb0 1).trans rfl; have q2 := (blk_cell hb0 2).trans rfl; have q3 := (blk_cell hb0 3).trans rfl; have q4 := (blk_cell hb0 4).trans rfl; have f0 := blk_frozen hb0 0; have f1 := blk_frozen hb0 1; have f2 := blk_frozen hb0 2; have f3 := blk_frozen hb0 3; have f4 := blk_frozen hb0 4; have HB0 := Aside0.mk hb0; have HB := Aside0.mk hB; clear hR hB hb0)
  have k1 := box_put5 HB0.out (.int .i64 0) (.string ⟨#[]⟩) (.int .i64 0) (.int .i64 0) (.slice none 0 0)
  have k2 := set5_below (g := w.heap.size) (below_step (below_alloc (Below.refl w.heap.size w) _) HB.out) (Nat.le_refl _) (.int .i64 0) (.string ⟨#[]⟩) (.int .i64 0) (.int .i64 0) (.slice none 0 0)
  refine sexpParse_ret (r := (zN, p, e)) (v4 := .slice none 0 0) ?_ ?_ ?_ k1 (Kd.R_nil _ _ _ _ _) k2
  · rfl
  · rfl
  · rfl
theorem drew_blk {V : World} {g : Nat} {b : Obj} (h : V.heap[g]? = some b) : V.drew.heap[g]? = some b := h
theorem drew_cell {V : World} {p : Addr} {v : Option Value} (h : V.cell? p = v) : V.drew.cell? p = v := h
theorem set5_far (V : World) (g k : Nat) (h : k ≠ g) (u0 u1 u2 u3 u4 : Value) : (((((V.setCell ⟨g, 0, none⟩ u0).setCell ⟨g, 1, none⟩ u1).setCell ⟨g, 2, none⟩ u2).setCell ⟨g, 3, none⟩ u3).setCell ⟨g, 4, none⟩ u4).heap[k]? = V.heap[k]? := by
  rw [Below.heap_setCell _ ⟨g, 4, none⟩ u4 k h, Below.heap_setCell _ ⟨g, 3, none⟩ u3 k h, Below.heap_setCell _ ⟨g, 2, none⟩ u2 k h, Below.heap_setCell _ ⟨g, 1, none⟩ u1 k h, Below.heap_setCell _ ⟨g, 0, none⟩ u0 k h]
theorem R_set5 {V : World} {B g : Nat} {ok : Nat → Prop} {v : Value} {xs : List NodeS} (h : k39.R 39 V B ok v xs) (hg : g < B) (u0 u1 u2 u3 u4 : Value) :
    k39.R 39 (((((V.setCell ⟨g, 0, none⟩ u0).setCell ⟨g, 1, none⟩ u1).setCell ⟨g, 2, none⟩ u2).setCell ⟨g, 3, none⟩ u3).setCell ⟨g, 4, none⟩ u4) g (fun _ => True) v xs :=
  Kd.R_lower (Kd.R_mono (Kd.R_step (Kd.R_bound h) (fun k hk _ => set5_far V g k (by have := hk.2.1; omega) u0 u1 u2 u3 u4)) (fun _ _ => trivial)) (Nat.le_of_lt hg)
theorem zN_M (W : World) (base : Nat) (ok : Nat → Prop) : k39.M W base ok zN [.int .i64 0, .string ⟨#[]⟩, .int .i64 0, .int .i64 0, .slice none 0 0] := k39_mkM W base ok zN (v4 := .slice none 0 0) (Kd.R_nil _ _ _ _ _)
abbrev StS (W : World) (B g cap : Nat) (st : List NodeS) : Prop := Kd.S k39 39 W B (fun _ => True) (.slice (some ⟨g, 0, none⟩) st.length cap) st
theorem st_init (W : World) : StS (W.alloc (.cells #[.int .i64 0, .string ⟨#[]⟩, .int .i64 0, .int .i64 0, .slice none 0 0] 39 (0, 0))) W.heap.size W.heap.size 1 [zN] := by
  refine Kd.S_bare ⟨fun _ _ => trivial, [.int .i64 0, .string ⟨#[]⟩, .int .i64 0, .int .i64 0, .slice none 0 0], World.ownsRow_lit (base := W.heap.size) (e := 39) (size := 5) W #[.int .i64 0, .string ⟨#[]⟩, .int .i64 0, .int .i64 0, .slice none 0 0] 1 (Nat.le_refl _) (by decide) rfl, rfl, fun j p hj => ?_⟩
  match j, hj with
  | 0, hj =>
    simp only [List.getElem?_cons_zero, Option.some.injEq] at hj
    subst hj
    exact zN_M _ _ _
theorem st_top {W : World} {B g cap : Nat} {st : List NodeS} (h : StS W B g cap st) (hp : 0 < st.length) : ∃ (A4 : Option Addr) (c4 : Nat),
    W.cell? ⟨g, (st.length - 1) * 5 + 4, none⟩ = some (.slice A4 (topN st).f4.length c4) := by
  obtain ⟨oki, c, h1, h2, h3, h4, h5⟩ := Kd.S_lend h zN ((st.length - 1 : Nat) : Int) (by omega) (by omega)
  obtain ⟨v4, rfl, hR⟩ := k39_openM h2
  obtain ⟨A4, c4, e, _⟩ := Kd.R_reads hR
  have := h3 4 _ rfl
  rw [Int.toNat_natCast] at this
  refine ⟨A4, c4, ?_⟩
  rw [show topN st = st.getD ((st.length - 1 : Nat) : Int).toNat zN from by rw [Int.toNat_natCast]; rfl, ← e]
  exact this
set_option maxRecDepth 100000 in
set_option maxHeartbeats 8000000 in
theorem sexpParse_ok (s : ByteArray) (l : List TokS) (p : Int) (w : World) (hG : GInv w) (hA : token_All.f s = some (l, p, 0)) (hl : l.length ≤ 1000) (hs : s.size ≤ 140737488351232) : Calls Tryd.prog 24 #[.string s] w (ParsePost w (parseEnd s.size (parseL l [zN]))) := by
  have HA := Aside0.mk (fun (W : World) (h : GInv W) => token_All.calls s l p 0 W h hA)
  have HG := Aside0.mk (hG.below (below_alloc (Below.refl _ w) (.cells #[.int .i64 0, .string ⟨#[]⟩, .int .i64 0, .int .i64 0, .slice none 0 0] 39)))
  clear hG hA
  go_enter Tryd.func24, Tryd.ntmps24
  go_wp2_with fail
  go_at_call 16
  refine (HA.out _ HG.out).mono ?_
  rintro e1 W1 ⟨v0, rfl, hR, hB⟩
  have hb0 := blk_below (blk_new w (.cells #[.int .i64 0, .string ⟨#[]⟩, .int .i64 0, .int .i64 0, .slice none 0 0] 39)) hB
  obtain ⟨A, c, rfl, hlc, hC⟩ := Kd.R_reads hR
  have HB0 := Aside0.mk hb0
  have HB := Aside0.mk hB
  have HC := Aside0.mk hC
  have HLC := Aside0.mk hlc
  clear hR hB hb0 hC hlc
  go_wp2
  have hS0 := Aside0.mk (st_init W1)
  have hBl : Aside0 (Below W1.heap.size W1 (W1.alloc (.cells #[.int .i64 0, .string ⟨#[]⟩, .int .i64 0, .int .i64 0, .slice none 0 0] 39 (0, 0)))) := ⟨below_alloc (Below.refl _ _) _⟩
  obtain ⟨R, HR0⟩ : ∃ R, parseL l [zN] = R := ⟨_, rfl⟩
  have HR := Aside0.mk HR0
  have HRE := Aside0.mk HR0
  clear HR0
  go_loopg [8, 31] l.length (fun nn v8 v31 W => ∃ (i : Nat) (st : List NodeS) (g cap : Nat), v31 = .int .i64 i ∧ v8 = .slice (some ⟨g, 0, none⟩) st.length cap ∧ Aside0 (parseL (l.drop i) st = R) ∧ Aside0 (StS W W1.heap.size g cap st) ∧ Aside0 (Below W1.heap.size W1 W) ∧ Aside0 (i + nn = l.length) ∧ Aside0 (stOk i st))
  case atStart => exact ⟨0, [zN], W1.heap.size, 1, rfl, rfl, HR, hS0, hBl, ⟨by omega⟩, ⟨by decide, by decide, fun x hx => by rw [List.mem_singleton.1 hx]; decide⟩⟩
  case round =>
    clear HR hS0 hBl
    obtain ⟨i, st, g, cap, rfl, rfl, HP, HS, HBl, HN, HO⟩ := hrel
    have hbx := blk_below HB0.out HBl.out
    have HBX := Aside0.mk hbx
    have q0 := (blk_cell hbx 0).trans rfl
    have q1 := (blk_cell hbx 1).trans rfl
    have q2 := (blk_cell hbx 2).trans rfl
    have q3 := (blk_cell hbx 3).trans rfl
    have q4 := (blk_cell hbx 4).trans rfl
    have f0 := blk_frozen hbx 0
    have f1 := blk_frozen hbx 1
    have f2 := blk_frozen hbx 2
    have f3 := blk_frozen hbx 3
    have f4 := blk_frozen hbx 4
    have HW := Aside0.mk (below_step (below_step (below_alloc (Below.refl w.heap.size w) (.cells #[.int .i64 0, .string ⟨#[]⟩, .int .i64 0, .int .i64 0, .slice none 0 0] 39)) HB.out) HBl.out)
    clear hbx
    by_cases hlt : i < l.length
    · obtain ⟨A4, c4, htop⟩ := st_top HS.out HO.out.1
      obtain ⟨m, hm⟩ : ∃ m, st.length = m + 1 := ⟨st.length - 1, by have := HO.out.1; omega⟩
      rw [hm, Nat.add_sub_cancel] at htop
      have hstep : l.drop i = l[i] :: l.drop (i + 1) := List.drop_eq_getElem_cons hlt
      obtain ⟨ad, hAd, t0, t1, t2, t3⟩ := at_T29 HC.out (i : Int) (by omega) (by omega)
      cases hAd
      have er : rd_T29 l (i : Int) = l[i] := by simp [rd_T29, hlt]
      rw [er, Int.toNat_natCast] at t0 t1 t2 t3
      have t0 := pw_cell_below HBl.out t0
      have t1 := pw_cell_below HBl.out t1
      have t2 := pw_cell_below HBl.out t2
      have t3 := pw_cell_below HBl.out t3
      rw [hstep] at HP
      clear hstep er
      generalize l[i] = t at *
      have HD := Aside0.mk (fun W => sexp_does.calls 1 t.f0 t.f1 t.f2 t.f3 (doesI t) W (does_eq t))
      have HM := Aside0.mk hm
      rw [hm]
      clear hm
      have HNE : Aside0 (wr.heap.size ≠ w.heap.size) := ⟨by have h1 := HB.out.size; have h2 := HBl.out.size; rw [World.size_alloc] at h1; omega⟩
      by_cases hfull : st.length = 1 ∧ (topN st).f4.length = 1
      · have hR : Aside0 (R = .inr (t.f3, 4)) := ⟨by rw [← HP.out, parseL, if_pos hfull]⟩
        have hm0 : m = 0 := by have := HM.out; omega
        have b2 : (((topN st).f4.length : Int) == 1) = true := beq_iff_eq.2 (by omega)
        clear hfull HP
        subst hm0
        simp only [Nat.zero_mul, Nat.zero_add] at htop
        have hV : Aside0 (parseEnd s.size (parseL l [zN]) = (zN, t.f3, 4)) := ⟨by rw [HRE.out, hR.out, parseEnd]⟩
        clear q0 q1 q2 q3 q4 f0 f1 f2 f3 f4
        go_wp2_with (go_at_call 45; refine (HD.out _).mono ?_; rintro e2 W2 ⟨rfl, hB2⟩; have KB2 := Aside0.mk (below_step (below_alloc (Below.refl wr.heap.size wr) _) hB2); have htop2 := pw_cell_below KB2.out htop; have tb := blk_below (blk_new wr (.cells #[.int .i64 t.f0, .string t.f1, .int .i64 t.f2, .int .i64 t.f3] 29)) hB2; have TB := Aside0.mk tb; have tb0 := (blk_cell tb 0).trans rfl; have tb1 := (blk_cell tb 1).trans rfl; have tb2 := (blk_cell tb 2).trans rfl; have tb3 : W2.cell? ⟨wr.heap.size, 3, none⟩ = some (.int .i64 t.f3) := (blk_cell tb 3).trans rfl; have bx2 := blk_below HBX.out KB2.out; have BX2 := Aside0.mk bx2; have r0 := (blk_cell bx2 0).trans rfl; have r1 := (blk_cell bx2 1).trans rfl; have r2 := (blk_cell bx2 2).trans rfl; have r3 := (blk_cell bx2 3).trans rfl; have r4 := (blk_cell bx2 4).trans rfl; have s0 := blk_frozen bx2 0; have s1 := blk_frozen bx2 1; have s2 := blk_frozen bx2 2; have s3 := blk_frozen bx2 3; have s4 := blk_frozen bx2 4; clear hB2 tb bx2 htop)
        refine start_ (n := 6) (S := fun V => V.cell? ⟨wr.heap.size, 3, none⟩ = some (.int .i64 t.f3)) (ds := []) #[false, false, false, false, false, false] (by kernel_rfl) rfl rfl tb3 (fun hHeld => ?_)
        refine pure_ (i := 0) (N := some 83) (v := ?_) (a' := ?_) #[true, false, false, false, false, false] rfl rfl (by kernel_rfl) (fun _ _ _ h => h) (Or.inl ⟨by rfl, ?_⟩) ?_ ?_
        rotate_left
        · intro w'
          go_simp
          try with_reducible rfl
        rotate_left
        · simp only [Act.put, List.setIfInBounds_toArray, List.set_cons_zero, List.set_cons_succ]
          rfl
        refine pure_ (i := 1) (N := some 84) (v := ?_) (a' := ?_) #[true, true, false, false, false, false] rfl rfl (by kernel_rfl) (fun _ _ _ h => h) (Or.inl ⟨by rfl, ?_⟩) ?_ ?_
        rotate_left
        · intro w'
          go_simp
          try with_reducible rfl
        rotate_left
        · simp only [Act.put, List.setIfInBounds_toArray, List.set_cons_zero, List.set_cons_succ]
          rfl
        refine take_ (i := 2) (N := some 85) (v := ?_) (a' := ?_) #[true, true, true, false, false, false] rfl rfl (by kernel_rfl) (fun _ _ _ h => h) (Or.inl ⟨by rfl, ?_⟩) hHeld ?_ ?_
        rotate_left
        · intro w' hS_
          try dsimp only at hS_
          go_simp
          try with_reducible rfl
        rotate_left
        · simp only [Act.put, List.setIfInBounds_toArray, List.set_cons_zero, List.set_cons_succ]
          rfl
        refine one_ (i := 3) (N := none) #[true, true, true, true, false, false] rfl rfl (by kernel_rfl) (by decide) (fun K hK => ?_)
        go_simp
        refine hK.out _ _ (drew_cell ((blk_cell ((set5_far W2 w.heap.size wr.heap.size HNE.out (.int .i64 0) (.string ⟨#[]⟩) (.int .i64 0) (.int .i64 0) (.slice none 0 0)).trans TB.out) 3).trans rfl)) (fun hHeld => ?_)
        clear hK K
        refine one_ (i := 4) (N := some 3) #[true, true, true, true, true, false] rfl rfl (by kernel_rfl) (by decide) (fun K hK => ?_)
        go_simp
        refine hK.out _ _ hHeld (fun hHeld => ?_)
        clear hK K
        refine one_ (i := 5) (N := some 4) #[true, true, true, true, true, true] rfl rfl (by kernel_rfl) (by decide) (fun K hK => ?_)
        go_simp
        refine hK.out _ _ hHeld (fun hHeld => ?_)
        clear hK K
        refine done_ (by kernel_rfl) ?_
        go_wp2
        rw [hV.out]
        have k1 := drew_blk (box_put5 (V := W2) BX2.out (.int .i64 0) (.string ⟨#[]⟩) (.int .i64 0) (.int .i64 0) (.slice none 0 0))
        have k2 := below_drew1 (set5_below (g := w.heap.size) (below_step HW.out KB2.out) (Nat.le_refl _) (.int .i64 0) (.string ⟨#[]⟩) (.int .i64 0) (.int .i64 0) (.slice none 0 0))
        refine sexpParse_ret (r := (zN, t.f3, 4)) (v4 := .slice none 0 0) ?_ ?_ ?_ k1 (Kd.R_nil _ _ _ _ _) k2
        · rfl
        · rfl
        · rfl
      · by_cases hd3 : doesI t = 3
        · have hR : Aside0 (R = .inr (t.f3, 4)) := ⟨by rw [← HP.out, parseL, if_neg hfull, if_pos hd3]⟩
          have hV : Aside0 (parseEnd s.size (parseL l [zN]) = (zN, t.f3, 4)) := ⟨by rw [HRE.out, hR.out, parseEnd]⟩
          rw [hd3] at HD
          clear HP hd3
          by_cases hm0 : m = 0
          · have b2 : (((topN st).f4.length : Int) == 1) = false := beq_eq_false_iff_ne.2 (by have := HM.out; omega)
            clear hfull
            subst hm0
            simp only [Nat.zero_mul, Nat.zero_add] at htop
            clear q0 q1 q2 q3 q4 f0 f1 f2 f3 f4
            go_wp2_with (go_at_call 45; refine (HD.out _).mono ?_; rintro e2 W2 ⟨rfl, hB2⟩; have KB2 := Aside0.mk (below_step (below_alloc (Below.refl wr.heap.size wr) _) hB2); have htop2 := pw_cell_below KB2.out htop; have tb := blk_below (blk_new wr (.cells #[.int .i64 t.f0, .string t.f1, .int .i64 t.f2, .int .i64 t.f3] 29)) hB2; have TB := Aside0.mk tb; have tb0 := (blk_cell tb 0).trans rfl; have tb1 := (blk_cell tb 1).trans rfl; have tb2 := (blk_cell tb 2).trans rfl; have tb3 : W2.cell? ⟨wr.heap.size, 3, none⟩ = some (.int .i64 t.f3) := (blk_cell tb 3).trans rfl; have bx2 := blk_below HBX.out KB2.out; have BX2 := Aside0.mk bx2; have r0 := (blk_cell bx2 0).trans rfl; have r1 := (blk_cell bx2 1).trans rfl; have r2 := (blk_cell bx2 2).trans rfl; have r3 := (blk_cell bx2 3).trans rfl; have r4 := (blk_cell bx2 4).trans rfl; have s0 := blk_frozen bx2 0; have s1 := blk_frozen bx2 1; have s2 := blk_frozen bx2 2; have s3 := blk_frozen bx2 3; have s4 := blk_frozen bx2 4; clear hB2 tb bx2 htop)
            refine start_ (n := 6) (S := fun V => V.cell? ⟨wr.heap.size, 3, none⟩ = some (.int .i64 t.f3)) (ds := []) #[false, false, false, false, false, false] (by kernel_rfl) rfl rfl tb3 (fun hHeld => ?_)
            refine pure_ (i := 0) (N := some 83) (v := ?_) (a' := ?_) #[true, false, false, false, false, false] rfl rfl (by kernel_rfl) (fun _ _ _ h => h) (Or.inl ⟨by rfl, ?_⟩) ?_ ?_
            rotate_left
            · intro w'
              go_simp
              try with_reducible rfl
            rotate_left
            · simp only [Act.put, List.setIfInBounds_toArray, List.set_cons_zero, List.set_cons_succ]
              rfl
            refine pure_ (i := 1) (N := some 84) (v := ?_) (a' := ?_) #[true, true, false, false, false, false] rfl rfl (by kernel_rfl) (fun _ _ _ h => h) (Or.inl ⟨by rfl, ?_⟩) ?_ ?_
            rotate_left
            · intro w'
              go_simp
              try with_reducible rfl
            rotate_left
            · simp only [Act.put, List.setIfInBounds_toArray, List.set_cons_zero, List.set_cons_succ]
              rfl
            refine take_ (i := 2) (N := some 85) (v := ?_) (a' := ?_) #[true, true, true, false, false, false] rfl rfl (by kernel_rfl) (fun _ _ _ h => h) (Or.inl ⟨by rfl, ?_⟩) hHeld ?_ ?_
            rotate_left
            · intro w' hS_
              try dsimp only at hS_
              go_simp
              try with_reducible rfl
            rotate_left
            · simp only [Act.put, List.setIfInBounds_toArray, List.set_cons_zero, List.set_cons_succ]
              rfl
            refine one_ (i := 3) (N := none) #[true, true, true, true, false, false] rfl rfl (by kernel_rfl) (by decide) (fun K hK => ?_)
            go_simp
            refine hK.out _ _ (drew_cell ((blk_cell ((set5_far W2 w.heap.size wr.heap.size HNE.out (.int .i64 0) (.string ⟨#[]⟩) (.int .i64 0) (.int .i64 0) (.slice none 0 0)).trans TB.out) 3).trans rfl)) (fun hHeld => ?_)
            clear hK K
            refine one_ (i := 4) (N := some 3) #[true, true, true, true, true, false] rfl rfl (by kernel_rfl) (by decide) (fun K hK => ?_)
            go_simp
            refine hK.out _ _ hHeld (fun hHeld => ?_)
            clear hK K
            refine one_ (i := 5) (N := some 4) #[true, true, true, true, true, true] rfl rfl (by kernel_rfl) (by decide) (fun K hK => ?_)
            go_simp
            refine hK.out _ _ hHeld (fun hHeld => ?_)
            clear hK K
            refine done_ (by kernel_rfl) ?_
            go_wp2
            rw [hV.out]
            have k1 := drew_blk (box_put5 (V := W2) BX2.out (.int .i64 0) (.string ⟨#[]⟩) (.int .i64 0) (.int .i64 0) (.slice none 0 0))
            have k2 := below_drew1 (set5_below (g := w.heap.size) (below_step HW.out KB2.out) (Nat.le_refl _) (.int .i64 0) (.string ⟨#[]⟩) (.int .i64 0) (.int .i64 0) (.slice none 0 0))
            refine sexpParse_ret (r := (zN, t.f3, 4)) (v4 := .slice none 0 0) ?_ ?_ ?_ k1 (Kd.R_nil _ _ _ _ _) k2
            · rfl
            · rfl
            · rfl
          · have b1 : (((m : Int) + 1) == 1) = false := beq_eq_false_iff_ne.2 (by omega)
            clear hfull
            have hmb : m ≤ 1000 := by have := HM.out; have := HO.out.2.1; have := HN.out; omega
            clear q0 q1 q2 q3 q4 f0 f1 f2 f3 f4
            go_wp2_with (go_at_call 45; refine (HD.out _).mono ?_; rintro e2 W2 ⟨rfl, hB2⟩; have KB2 := Aside0.mk (below_step (below_alloc (Below.refl wr.heap.size wr) _) hB2); have htop2 := pw_cell_below KB2.out htop; have tb := blk_below (blk_new wr (.cells #[.int .i64 t.f0, .string t.f1, .int .i64 t.f2, .int .i64 t.f3] 29)) hB2; have TB := Aside0.mk tb; have tb0 := (blk_cell tb 0).trans rfl; have tb1 := (blk_cell tb 1).trans rfl; have tb2 := (blk_cell tb 2).trans rfl; have tb3 : W2.cell? ⟨wr.heap.size, 3, none⟩ = some (.int .i64 t.f3) := (blk_cell tb 3).trans rfl; have bx2 := blk_below HBX.out KB2.out; have BX2 := Aside0.mk bx2; have r0 := (blk_cell bx2 0).trans rfl; have r1 := (blk_cell bx2 1).trans rfl; have r2 := (blk_cell bx2 2).trans rfl; have r3 := (blk_cell bx2 3).trans rfl; have r4 := (blk_cell bx2 4).trans rfl; have s0 := blk_frozen bx2 0; have s1 := blk_frozen bx2 1; have s2 := blk_frozen bx2 2; have s3 := blk_frozen bx2 3; have s4 := blk_frozen bx2 4; clear hB2 tb bx2 htop)
            refine start_ (n := 6) (S := fun V => V.cell? ⟨wr.heap.size, 3, none⟩ = some (.int .i64 t.f3)) (ds := []) #[false, false, false, false, false, false] (by kernel_rfl) rfl rfl tb3 (fun hHeld => ?_)
            refine pure_ (i := 0) (N := some 83) (v := ?_) (a' := ?_) #[true, false, false, false, false, false] rfl rfl (by kernel_rfl) (fun _ _ _ h => h) (Or.inl ⟨by rfl, ?_⟩) ?_ ?_
            rotate_left
            · intro w'
              go_simp
              try with_reducible rfl
            rotate_left
            · simp only [Act.put, List.setIfInBounds_toArray, List.set_cons_zero, List.set_cons_succ]
              rfl
            refine pure_ (i := 1) (N := some 84) (v := ?_) (a' := ?_) #[true, true, false, false, false, false] rfl rfl (by kernel_rfl) (fun _ _ _ h => h) (Or.inl ⟨by rfl, ?_⟩) ?_ ?_
            rotate_left
            · intro w'
              go_simp
              try with_reducible rfl
            rotate_left
            · simp only [Act.put, List.setIfInBounds_toArray, List.set_cons_zero, List.set_cons_succ]
              rfl
            refine take_ (i := 2) (N := some 85) (v := ?_) (a' := ?_) #[true, true, true, false, false, false] rfl rfl (by kernel_rfl) (fun _ _ _ h => h) (Or.inl ⟨by rfl, ?_⟩) hHeld ?_ ?_
            rotate_left
            · intro w' hS_
              try dsimp only at hS_
              go_simp
              try with_reducible rfl
            rotate_left
            · simp only [Act.put, List.setIfInBounds_toArray, List.set_cons_zero, List.set_cons_succ]
              rfl
            refine one_ (i := 3) (N := none) #[true, true, true, true, false, false] rfl rfl (by kernel_rfl) (by decide) (fun K hK => ?_)
            go_simp
            refine hK.out _ _ (drew_cell ((blk_cell ((set5_far W2 w.heap.size wr.heap.size HNE.out (.int .i64 0) (.string ⟨#[]⟩) (.int .i64 0) (.int .i64 0) (.slice none 0 0)).trans TB.out) 3).trans rfl)) (fun hHeld => ?_)
            clear hK K
            refine one_ (i := 4) (N := some 3) #[true, true, true, true, true, false] rfl rfl (by kernel_rfl) (by decide) (fun K hK => ?_)
            go_simp
            refine hK.out _ _ hHeld (fun hHeld => ?_)
            clear hK K
            refine one_ (i := 5) (N := some 4) #[true, true, true, true, true, true] rfl rfl (by kernel_rfl) (by decide) (fun K hK => ?_)
            go_simp
            refine hK.out _ _ hHeld (fun hHeld => ?_)
            clear hK K
            refine done_ (by kernel_rfl) ?_
            go_wp2
            rw [hV.out]
            have k1 := drew_blk (box_put5 (V := W2) BX2.out (.int .i64 0) (.string ⟨#[]⟩) (.int .i64 0) (.int .i64 0) (.slice none 0 0))
            have k2 := below_drew1 (set5_below (g := w.heap.size) (below_step HW.out KB2.out) (Nat.le_refl _) (.int .i64 0) (.string ⟨#[]⟩) (.int .i64 0) (.int .i64 0) (.slice none 0 0))
            refine sexpParse_ret (r := (zN, t.f3, 4)) (v4 := .slice none 0 0) ?_ ?_ ?_ k1 (Kd.R_nil _ _ _ _ _) k2
            · rfl
            · rfl
            · rfl
        · by_cases hd2 : doesI t = 2 ∧ st.length = 1
          · have hR : Aside0 (R = .inr (t.f3, 4)) := ⟨by rw [← HP.out, parseL, if_neg hfull, if_neg hd3, if_pos hd2]⟩
            have hV : Aside0 (parseEnd s.size (parseL l [zN]) = (zN, t.f3, 4)) := ⟨by rw [HRE.out, hR.out, parseEnd]⟩
            rw [hd2.1] at HD
            have b2 : (((topN st).f4.length : Int) == 1) = false := beq_eq_false_iff_ne.2 (by have := HM.out; omega)
            have hm0 : m = 0 := by have := HM.out; omega
            clear HP hd3 hfull hd2
            subst hm0
            simp only [Nat.zero_mul, Nat.zero_add] at htop
            clear q0 q1 q2 q3 q4 f0 f1 f2 f3 f4
            go_wp2_with (go_at_call 45; refine (HD.out _).mono ?_; rintro e2 W2 ⟨rfl, hB2⟩; have KB2 := Aside0.mk (below_step (below_alloc (Below.refl wr.heap.size wr) _) hB2); have htop2 := pw_cell_below KB2.out htop; have tb := blk_below (blk_new wr (.cells #[.int .i64 t.f0, .string t.f1, .int .i64 t.f2, .int .i64 t.f3] 29)) hB2; have TB := Aside0.mk tb; have tb0 := (blk_cell tb 0).trans rfl; have tb1 := (blk_cell tb 1).trans rfl; have tb2 := (blk_cell tb 2).trans rfl; have tb3 : W2.cell? ⟨wr.heap.size, 3, none⟩ = some (.int .i64 t.f3) := (blk_cell tb 3).trans rfl; have bx2 := blk_below HBX.out KB2.out; have BX2 := Aside0.mk bx2; have r0 := (blk_cell bx2 0).trans rfl; have r1 := (blk_cell bx2 1).trans rfl; have r2 := (blk_cell bx2 2).trans rfl; have r3 := (blk_cell bx2 3).trans rfl; have r4 := (blk_cell bx2 4).trans rfl; have s0 := blk_frozen bx2 0; have s1 := blk_frozen bx2 1; have s2 := blk_frozen bx2 2; have s3 := blk_frozen bx2 3; have s4 := blk_frozen bx2 4; clear hB2 tb bx2 htop)
            refine start_ (n := 6) (S := fun V => V.cell? ⟨wr.heap.size, 3, none⟩ = some (.int .i64 t.f3)) (ds := []) #[false, false, false, false, false, false] (by kernel_rfl) rfl rfl tb3 (fun hHeld => ?_)
            refine pure_ (i := 0) (N := some 83) (v := ?_) (a' := ?_) #[true, false, false, false, false, false] rfl rfl (by kernel_rfl) (fun _ _ _ h => h) (Or.inl ⟨by rfl, ?_⟩) ?_ ?_
            rotate_left
            · intro w'
              go_simp
              try with_reducible rfl
            rotate_left
            · simp only [Act.put, List.setIfInBounds_toArray, List.set_cons_zero, List.set_cons_succ]
              rfl
            refine pure_ (i := 1) (N := some 84) (v := ?_) (a' := ?_) #[true, true, false, false, false, false] rfl rfl (by kernel_rfl) (fun _ _ _ h => h) (Or.inl ⟨by rfl, ?_⟩) ?_ ?_
            rotate_left
            · intro w'
              go_simp
              try with_reducible rfl
            rotate_left
            · simp only [Act.put, List.setIfInBounds_toArray, List.set_cons_zero, List.set_cons_succ]
              rfl
            refine take_ (i := 2) (N := some 85) (v := ?_) (a' := ?_) #[true, true, true, false, false, false] rfl rfl (by kernel_rfl) (fun _ _ _ h => h) (Or.inl ⟨by rfl, ?_⟩) hHeld ?_ ?_
            rotate_left
            · intro w' hS_
              try dsimp only at hS_
              go_simp
              try with_reducible rfl
            rotate_left
            · simp only [Act.put, List.setIfInBounds_toArray, List.set_cons_zero, List.set_cons_succ]
              rfl
            refine one_ (i := 3) (N := none) #[true, true, true, true, false, false] rfl rfl (by kernel_rfl) (by decide) (fun K hK => ?_)
            go_simp
            refine hK.out _ _ (drew_cell ((blk_cell ((set5_far W2 w.heap.size wr.heap.size HNE.out (.int .i64 0) (.string ⟨#[]⟩) (.int .i64 0) (.int .i64 0) (.slice none 0 0)).trans TB.out) 3).trans rfl)) (fun hHeld => ?_)
            clear hK K
            refine one_ (i := 4) (N := some 3) #[true, true, true, true, true, false] rfl rfl (by kernel_rfl) (by decide) (fun K hK => ?_)
            go_simp
            refine hK.out _ _ hHeld (fun hHeld => ?_)
            clear hK K
            refine one_ (i := 5) (N := some 4) #[true, true, true, true, true, true] rfl rfl (by kernel_rfl) (by decide) (fun K hK => ?_)
            go_simp
            refine hK.out _ _ hHeld (fun hHeld => ?_)
            clear hK K
            refine done_ (by kernel_rfl) ?_
            go_wp2
            rw [hV.out]
            have k1 := drew_blk (box_put5 (V := W2) BX2.out (.int .i64 0) (.string ⟨#[]⟩) (.int .i64 0) (.int .i64 0) (.slice none 0 0))
            have k2 := below_drew1 (set5_below (g := w.heap.size) (below_step HW.out KB2.out) (Nat.le_refl _) (.int .i64 0) (.string ⟨#[]⟩) (.int .i64 0) (.int .i64 0) (.slice none 0 0))
            refine sexpParse_ret (r := (zN, t.f3, 4)) (v4 := .slice none 0 0) ?_ ?_ ?_ k1 (Kd.R_nil _ _ _ _ _) k2
            · rfl
            · rfl
            · rfl
          · by_cases hd1 : doesI t = 1
            · by_cases hL : 16 < st.length
              · have hR : Aside0 (R = .inr (t.f3, 2)) := ⟨by rw [← HP.out, parseL, if_neg hfull, if_neg hd3, if_neg hd2, if_pos (show doesI t = 1 ∧ st.length > 16 from ⟨hd1, hL⟩)]⟩
                have hV : Aside0 (parseEnd s.size (parseL l [zN]) = (zN, t.f3, 2)) := ⟨by rw [HRE.out, hR.out, parseEnd]⟩
                rw [hd1] at HD
                have b1 : (((m : Int) + 1) == 1) = false := beq_eq_false_iff_ne.2 (by have := HM.out; omega)
                have b3 : decide (16 < (m : Int) + 1) = true := decide_eq_true (by have := HM.out; omega)
                have hmb : m ≤ 1000 := by have := HM.out; have := HO.out.2.1; have := HN.out; omega
                clear HP hd3 hfull hd2 hd1 hL
                clear q0 q1 q2 q3 q4 f0 f1 f2 f3 f4
                go_wp2_with (go_at_call 45; refine (HD.out _).mono ?_; rintro e2 W2 ⟨rfl, hB2⟩; have KB2 := Aside0.mk (below_step (below_alloc (Below.refl wr.heap.size wr) _) hB2); have htop2 := pw_cell_below KB2.out htop; have tb := blk_below (blk_new wr (.cells #[.int .i64 t.f0, .string t.f1, .int .i64 t.f2, .int .i64 t.f3] 29)) hB2; have TB := Aside0.mk tb; have tb0 := (blk_cell tb 0).trans rfl; have tb1 := (blk_cell tb 1).trans rfl; have tb2 := (blk_cell tb 2).trans rfl; have tb3 : W2.cell? ⟨wr.heap.size, 3, none⟩ = some (.int .i64 t.f3) := (blk_cell tb 3).trans rfl; have bx2 := blk_below HBX.out KB2.out; have BX2 := Aside0.mk bx2; have r0 := (blk_cell bx2 0).trans rfl; have r1 := (blk_cell bx2 1).trans rfl; have r2 := (blk_cell bx2 2).trans rfl; have r3 := (blk_cell bx2 3).trans rfl; have r4 := (blk_cell bx2 4).trans rfl; have s0 := blk_frozen bx2 0; have s1 := blk_frozen bx2 1; have s2 := blk_frozen bx2 2; have s3 := blk_frozen bx2 3; have s4 := blk_frozen bx2 4; clear hB2 tb bx2 htop)
                refine start_ (n := 6) (S := fun V => V.cell? ⟨wr.heap.size, 3, none⟩ = some (.int .i64 t.f3)) (ds := []) #[false, false, false, false, false, false] (by kernel_rfl) rfl rfl tb3 (fun hHeld => ?_)
                refine pure_ (i := 0) (N := some 94) (v := ?_) (a' := ?_) #[true, false, false, false, false, false] rfl rfl (by kernel_rfl) (fun _ _ _ h => h) (Or.inl ⟨by rfl, ?_⟩) ?_ ?_
                rotate_left
                · intro w'
                  go_simp
                  try with_reducible rfl
                rotate_left
                · simp only [Act.put, List.setIfInBounds_toArray, List.set_cons_zero, List.set_cons_succ]
                  rfl
                refine pure_ (i := 1) (N := some 95) (v := ?_) (a' := ?_) #[true, true, false, false, false, false] rfl rfl (by kernel_rfl) (fun _ _ _ h => h) (Or.inl ⟨by rfl, ?_⟩) ?_ ?_
                rotate_left
                · intro w'
                  go_simp
                  try with_reducible rfl
                rotate_left
                · simp only [Act.put, List.setIfInBounds_toArray, List.set_cons_zero, List.set_cons_succ]
                  rfl
                refine take_ (i := 2) (N := some 96) (v := ?_) (a' := ?_) #[true, true, true, false, false, false] rfl rfl (by kernel_rfl) (fun _ _ _ h => h) (Or.inl ⟨by rfl, ?_⟩) hHeld ?_ ?_
                rotate_left
                · intro w' hS_
                  try dsimp only at hS_
                  go_simp
                  try with_reducible rfl
                rotate_left
                · simp only [Act.put, List.setIfInBounds_toArray, List.set_cons_zero, List.set_cons_succ]
                  rfl
                refine one_ (i := 3) (N := none) #[true, true, true, true, false, false] rfl rfl (by kernel_rfl) (by decide) (fun K hK => ?_)
                go_simp
                refine hK.out _ _ (drew_cell ((blk_cell ((set5_far W2 w.heap.size wr.heap.size HNE.out (.int .i64 0) (.string ⟨#[]⟩) (.int .i64 0) (.int .i64 0) (.slice none 0 0)).trans TB.out) 3).trans rfl)) (fun hHeld => ?_)
                clear hK K
                refine one_ (i := 4) (N := some 3) #[true, true, true, true, true, false] rfl rfl (by kernel_rfl) (by decide) (fun K hK => ?_)
                go_simp
                refine hK.out _ _ hHeld (fun hHeld => ?_)
                clear hK K
                refine one_ (i := 5) (N := some 4) #[true, true, true, true, true, true] rfl rfl (by kernel_rfl) (by decide) (fun K hK => ?_)
                go_simp
                refine hK.out _ _ hHeld (fun hHeld => ?_)
                clear hK K
                refine done_ (by kernel_rfl) ?_
                go_wp2
                rw [hV.out]
                have k1 := drew_blk (box_put5 (V := W2) BX2.out (.int .i64 0) (.string ⟨#[]⟩) (.int .i64 0) (.int .i64 0) (.slice none 0 0))
                have k2 := below_drew1 (set5_below (g := w.heap.size) (below_step HW.out KB2.out) (Nat.le_refl _) (.int .i64 0) (.string ⟨#[]⟩) (.int .i64 0) (.int .i64 0) (.slice none 0 0))
                refine sexpParse_ret (r := (zN, t.f3, 2)) (v4 := .slice none 0 0) ?_ ?_ ?_ k1 (Kd.R_nil _ _ _ _ _) k2
                · rfl
                · rfl
                · rfl
              · have HP2 : Aside0 (parseL (l.drop (i + 1)) (st ++ [⟨4, ⟨#[]⟩, 0, t.f3, []⟩]) = R) := ⟨by rw [← HP.out]; symm; rw [parseL, if_neg hfull, if_neg hd3, if_neg hd2, if_neg (show ¬ (doesI t = 1 ∧ st.length > 16) from fun h => hL h.2), if_pos hd1]⟩
                have HO2 : Aside0 (stOk (i + 1) (st ++ [⟨4, ⟨#[]⟩, 0, t.f3, []⟩])) := ⟨stOk_push i st _ HO.out rfl⟩
                have HLEN : Aside0 ((st.length + 1) * 64 ≤ 140737488355328) := ⟨by have := HO.out.2.1; have := HN.out; omega⟩
                rw [hd1] at HD
                have hmb : m ≤ 1000 := by have := HM.out; have := HO.out.2.1; have := HN.out; omega
                clear HP
                by_cases hm0 : m = 0
                · have b2 : (((topN st).f4.length : Int) == 1) = false := beq_eq_false_iff_ne.2 (by have := HM.out; omega)
                  clear hfull hd3 hd2 hd1 hL hmb
                  subst hm0
                  simp only [Nat.zero_mul, Nat.zero_add] at htop
                  clear q0 q1 q2 q3 q4 f0 f1 f2 f3 f4
                  go_wp2_with (first | (go_at_call 45; refine (HD.out _).mono ?_; rintro e2 W2 ⟨rfl, hB2⟩; have KB2 := Aside0.mk (below_step (below_alloc (Below.refl wr.heap.size wr) _) hB2); have htop2 := pw_cell_below KB2.out htop; have tb := blk_below (blk_new wr (.cells #[.int .i64 t.f0, .string t.f1, .int .i64 t.f2, .int .i64 t.f3] 29)) hB2; have TB := Aside0.mk tb; have tb0 := (blk_cell tb 0).trans rfl; have tb1 := (blk_cell tb 1).trans rfl; have tb2 := (blk_cell tb 2).trans rfl; have tb3 : W2.cell? ⟨wr.heap.size, 3, none⟩ = some (.int .i64 t.f3) := (blk_cell tb 3).trans rfl; have bx2 := blk_below HBX.out KB2.out; have BX2 := Aside0.mk bx2; have r0 := (blk_cell bx2 0).trans rfl; have r1 := (blk_cell bx2 1).trans rfl; have r2 := (blk_cell bx2 2).trans rfl; have r3 := (blk_cell bx2 3).trans rfl; have r4 := (blk_cell bx2 4).trans rfl; have s0 := blk_frozen bx2 0; have s1 := blk_frozen bx2 1; have s2 := blk_frozen bx2 2; have s3 := blk_frozen bx2 3; have s4 := blk_frozen bx2 4; have HS2 : Aside0 (Kd.S k39 39 W2 W1.heap.size (fun k => True ∧ ¬ False) (.slice (some ⟨g, 0, none⟩) st.length cap) st) := ⟨Kd.S_mono (Kd.S_below HS.out KB2.out) (fun _ _ => ⟨trivial, fun h => h⟩)⟩; rw [HM.out] at HS2; have HBW := Aside0.mk (below_step HBl.out KB2.out); have HSZ := Aside0.mk (Nat.le_trans HBl.out.size KB2.out.size); clear hB2 tb bx2 htop r0 r1 r2 r3 r4 s0 s1 s2 s3 s4) | ((with_reducible refine gate_builtin (b := .append) (xs := #[.tmp 100, .tmp 104]) rfl ?_); at_builtin; refine Kd.S_append k39 (w0 := W1) W1.heap.size rfl (.tmp 100) (.tmp 104) 37 39 (.agg #[(.int .i64 0), (.string ⟨#[]⟩), (.int .i64 0), (.int .i64 0), (.slice none 0 0)]) 64 rfl Tryd.underlying37 info39 rfl (by decide) (by decide) _ st ⟨4, ⟨#[]⟩, 0, t.f3, []⟩ [.int .i64 4, .string ⟨#[]⟩, .int .i64 0, .int .i64 t.f3, .slice none 0 0] (fun _ => True) (fun _ => False) rfl rfl (k39_mkM _ _ _ _ (Kd.R_nil _ _ _ _ _)) (fun _ hk => hk.elim) (fun _ _ => trivial) HS2.out HBW.out HSZ.out HLEN.out ?_; intro v1 w1 hS1 hB1 hg1 hat; obtain ⟨g1, cap1, rfl, _⟩ := Kd.R_form (Kd.S_R hS1) (by simp); have HS1 := Aside0.mk hS1; have HB1 := Aside0.mk hB1; clear hS1 hB1 hg1 hat))
                  go_roundg (l.length - (i + 1))
                  case measure => have := HN.out; omega
                  case rel => exact ⟨i + 1, _, g1, cap1, by go_num, by simp, HP2, HS1, HB1, ⟨by omega⟩, HO2⟩
                · have b1 : (((m : Int) + 1) == 1) = false := beq_eq_false_iff_ne.2 (by omega)
                  have b3 : decide (16 < (m : Int) + 1) = false := decide_eq_false (by have := HM.out; omega)
                  clear hfull hd3 hd2 hd1 hL
                  clear q0 q1 q2 q3 q4 f0 f1 f2 f3 f4
                  go_wp2_with (first | (go_at_call 45; refine (HD.out _).mono ?_; rintro e2 W2 ⟨rfl, hB2⟩; have KB2 := Aside0.mk (below_step (below_alloc (Below.refl wr.heap.size wr) _) hB2); have htop2 := pw_cell_below KB2.out htop; have tb := blk_below (blk_new wr (.cells #[.int .i64 t.f0, .string t.f1, .int .i64 t.f2, .int .i64 t.f3] 29)) hB2; have TB := Aside0.mk tb; have tb0 := (blk_cell tb 0).trans rfl; have tb1 := (blk_cell tb 1).trans rfl; have tb2 := (blk_cell tb 2).trans rfl; have tb3 : W2.cell? ⟨wr.heap.size, 3, none⟩ = some (.int .i64 t.f3) := (blk_cell tb 3).trans rfl; have bx2 := blk_below HBX.out KB2.out; have BX2 := Aside0.mk bx2; have r0 := (blk_cell bx2 0).trans rfl; have r1 := (blk_cell bx2 1).trans rfl; have r2 := (blk_cell bx2 2).trans rfl; have r3 := (blk_cell bx2 3).trans rfl; have r4 := (blk_cell bx2 4).trans rfl; have s0 := blk_frozen bx2 0; have s1 := blk_frozen bx2 1; have s2 := blk_frozen bx2 2; have s3 := blk_frozen bx2 3; have s4 := blk_frozen bx2 4; have HS2 : Aside0 (Kd.S k39 39 W2 W1.heap.size (fun k => True ∧ ¬ False) (.slice (some ⟨g, 0, none⟩) st.length cap) st) := ⟨Kd.S_mono (Kd.S_below HS.out KB2.out) (fun _ _ => ⟨trivial, fun h => h⟩)⟩; rw [HM.out] at HS2; have HBW := Aside0.mk (below_step HBl.out KB2.out); have HSZ := Aside0.mk (Nat.le_trans HBl.out.size KB2.out.size); clear hB2 tb bx2 htop r0 r1 r2 r3 r4 s0 s1 s2 s3 s4) | ((with_reducible refine gate_builtin (b := .append) (xs := #[.tmp 100, .tmp 104]) rfl ?_); at_builtin; refine Kd.S_append k39 (w0 := W1) W1.heap.size rfl (.tmp 100) (.tmp 104) 37 39 (.agg #[(.int .i64 0), (.string ⟨#[]⟩), (.int .i64 0), (.int .i64 0), (.slice none 0 0)]) 64 rfl Tryd.underlying37 info39 rfl (by decide) (by decide) _ st ⟨4, ⟨#[]⟩, 0, t.f3, []⟩ [.int .i64 4, .string ⟨#[]⟩, .int .i64 0, .int .i64 t.f3, .slice none 0 0] (fun _ => True) (fun _ => False) rfl rfl (k39_mkM _ _ _ _ (Kd.R_nil _ _ _ _ _)) (fun _ hk => hk.elim) (fun _ _ => trivial) HS2.out HBW.out HSZ.out HLEN.out ?_; intro v1 w1 hS1 hB1 hg1 hat; obtain ⟨g1, cap1, rfl, _⟩ := Kd.R_form (Kd.S_R hS1) (by simp); have HS1 := Aside0.mk hS1; have HB1 := Aside0.mk hB1; clear hS1 hB1 hg1 hat))
                  go_roundg (l.length - (i + 1))
                  case measure => have := HN.out; omega
                  case rel => exact ⟨i + 1, _, g1, cap1, by go_num, by simp, HP2, HS1, HB1, ⟨by omega⟩, HO2⟩
            · by_cases hd0 : doesI t = 2
              · have hSt : stOk (i + 1) (addTop (st.take (st.length - 1)) (topN st)) := stOk_pop i st _ HO.out (by have := HO.out.1; have h9 : ¬ st.length = 1 := fun h => hd2 ⟨hd0, h⟩; omega)
                have hP2 : parseL (l.drop (i + 1)) (addTop (st.take (st.length - 1)) (topN st)) = R := by rw [← HP.out]; symm; rw [parseL, if_neg hfull, if_neg hd3, if_neg hd2, if_neg (show ¬ (doesI t = 1 ∧ st.length > 16) from fun h => hd1 h.1), if_neg hd1, if_pos hd0]
                obtain ⟨q, rfl⟩ : ∃ q, m = q + 1 := ⟨m - 1, by have := HM.out; have h9 : ¬ st.length = 1 := fun h => hd2 ⟨hd0, h⟩; omega⟩
                have hqb : q ≤ 1000 := by have := HM.out; have := HO.out.2.1; have := HN.out; omega
                have hlen : ((topN (st.take (st.length - 1))).f4.length + 1) * 64 ≤ 140737488355328 := by have h8 : topN (st.take (st.length - 1)) ∈ st := List.mem_of_mem_take (topN_mem _ (by rw [List.length_take]; have := HM.out; omega)); have := HO.out.2.2 _ h8; have := HN.out; omega
                rw [hd0] at HD
                have hsl : st.length - 1 = q + 1 := by have := HM.out; omega
                rw [hsl] at hSt hP2 hlen
                obtain ⟨sq, hsq⟩ : ∃ sq, st.take (q + 1) = sq := ⟨_, rfl⟩
                obtain ⟨tx, htx⟩ : ∃ tx, topN st = tx := ⟨_, rfl⟩
                have hMQ : sq.length = q + 1 := by rw [← hsq, List.length_take]; have := HM.out; omega
                rw [hsq, htx] at hSt hP2
                rw [hsq] at hlen
                have HO2 := Aside0.mk hSt
                have HP2 := Aside0.mk hP2
                have HLEN := Aside0.mk hlen
                have HSQ := Aside0.mk hsq
                have HTX := Aside0.mk htx
                have HMQ := Aside0.mk hMQ
                have b1 : (((q : Int) + 1 + 1) == 1) = false := beq_eq_false_iff_ne.2 (by omega)
                clear HP hfull hd3 hd2 hd1 hd0 hSt hP2 hlen hsl hsq htx hMQ
                clear q0 q1 q2 q3 q4 f0 f1 f2 f3 f4
                have hqc : (q : Int) + 1 ≤ (cap : Int) := by have := row_cap (Kd.S_R HS.out); have := HM.out; omega
                go_wp2_with (go_at_call 45; refine (HD.out _).mono ?_; rintro e2 W2 ⟨rfl, hB2⟩; have KB2 := Aside0.mk (below_step (below_alloc (Below.refl wr.heap.size wr) _) hB2); have tb := blk_below (blk_new wr (.cells #[.int .i64 t.f0, .string t.f1, .int .i64 t.f2, .int .i64 t.f3] 29)) hB2; have TB := Aside0.mk tb; have tb0 := (blk_cell tb 0).trans rfl; have tb1 := (blk_cell tb 1).trans rfl; have tb2 := (blk_cell tb 2).trans rfl; have tb3 : W2.cell? ⟨wr.heap.size, 3, none⟩ = some (.int .i64 t.f3) := (blk_cell tb 3).trans rfl; have bx2 := blk_below HBX.out KB2.out; have BX2 := Aside0.mk bx2; have r0 := (blk_cell bx2 0).trans rfl; have r1 := (blk_cell bx2 1).trans rfl; have r2 := (blk_cell bx2 2).trans rfl; have r3 := (blk_cell bx2 3).trans rfl; have r4 := (blk_cell bx2 4).trans rfl; have s0 := blk_frozen bx2 0; have s1 := blk_frozen bx2 1; have s2 := blk_frozen bx2 2; have s3 := blk_frozen bx2 3; have s4 := blk_frozen bx2 4; have hSd := Kd.S_below HS.out KB2.out; rw [HM.out] at hSd; obtain ⟨okp, okw, okx, A4, A5, c4, c5, hnew, hR4, hcell, hM5, hc5, hpx, hwx, hH⟩ := pop_open hSd HM.out rfl; rw [HSQ.out] at hR4 hcell hH; rw [HTX.out] at hM5 hc5; have g0 : W2.cell? ⟨g, (q + 1) * 5, none⟩ = _ := hc5 0 _ rfl; have g1 := hc5 1 _ rfl; have g2 := hc5 2 _ rfl; have g3 := hc5 3 _ rfl; have g4 := hc5 4 _ rfl; have HNEW := Aside0.mk hnew; have HR4 := Aside0.mk hR4; have HCELL := Aside0.mk hcell; have HM5 := Aside0.mk hM5; have HPX := Aside0.mk hpx; have HWX := Aside0.mk hwx; have HHO := Aside0.mk hH; have HBW := Aside0.mk (below_step HBl.out KB2.out); have HSZ := Aside0.mk (below_size HBW.out); clear hB2 tb bx2 htop r0 r1 r2 r3 r4 s0 s1 s2 s3 s4 hSd hnew hR4 hcell hM5 hc5 hpx hwx hH)
                have KB3 : Aside0 (Below W2.heap.size W2 (W2.alloc (.cells #[.int .i64 tx.f0, .string tx.f1, .int .i64 tx.f2, .int .i64 tx.f3, .slice A5 tx.f4.length c5] 39 (0, 0))).drew) := ⟨below_drew1 (below_alloc (Below.refl _ _) _)⟩
                have tbx := blk_new W2 (.cells #[.int .i64 tx.f0, .string tx.f1, .int .i64 tx.f2, .int .i64 tx.f3, .slice A5 tx.f4.length c5] 39 (0, 0))
                generalize W2.alloc (.cells #[.int .i64 tx.f0, .string tx.f1, .int .i64 tx.f2, .int .i64 tx.f3, .slice A5 tx.f4.length c5] 39 (0, 0)) = W3 at *
                have KR4 := Aside0.mk (Kd.R_below HR4.out KB3.out)
                have KM5 := Aside0.mk (Kd.M_below HM5.out KB3.out)
                have KHO := Aside0.mk (Kd.H_below HHO.out KB3.out)
                have KNEW : Aside0 (∀ k, W3.drew.heap.size ≤ k → okw k) := ⟨fun k hk => HNEW.out k (Nat.le_trans KB3.out.size hk)⟩
                have KBW := Aside0.mk (below_step HBW.out KB3.out)
                have KSZ := Aside0.mk (below_size KBW.out)
                have KCELL := Aside0.mk (pw_cell_below KB3.out HCELL.out)
                have KX := Aside0.mk (And.intro ((blk_cell tbx 0).trans rfl : _ = some (Value.int .i64 tx.f0)) (And.intro ((blk_cell tbx 1).trans rfl : _ = some (Value.string tx.f1)) (And.intro ((blk_cell tbx 2).trans rfl : _ = some (Value.int .i64 tx.f2)) (And.intro ((blk_cell tbx 3).trans rfl : _ = some (Value.int .i64 tx.f3)) ((blk_cell tbx 4).trans rfl : _ = some (Value.slice A5 tx.f4.length c5))))))
                clear HR4 HM5 HHO HNEW HBW HSZ HCELL tbx g0 g1 g2 g3 g4
                refine start_ (n := 13) (S := fun V => V.cell? ⟨W2.heap.size, 0, none⟩ = some (.int .i64 tx.f0) ∧ V.cell? ⟨W2.heap.size, 1, none⟩ = some (.string tx.f1) ∧ V.cell? ⟨W2.heap.size, 2, none⟩ = some (.int .i64 tx.f2) ∧ V.cell? ⟨W2.heap.size, 3, none⟩ = some (.int .i64 tx.f3) ∧ V.cell? ⟨W2.heap.size, 4, none⟩ = some (.slice A5 tx.f4.length c5) ∧ V.cell? ⟨g, q * 5 + 4, none⟩ = some (.slice A4 (topN sq).f4.length c4)) (ds := [7, 9, 12]) #[false, false, false, false, false, false, false, false, false, false, false, false, false] (by kernel_rfl) rfl rfl ⟨KX.out.1, KX.out.2.1, KX.out.2.2.1, KX.out.2.2.2.1, KX.out.2.2.2.2, KCELL.out⟩ (fun hHeld => ?_)
                refine pure_ (i := 0) (N := some 122) (v := ?_) (a' := ?_) #[true, false, false, false, false, false, false, false, false, false, false, false, false] rfl rfl (by kernel_rfl) (fun _ _ _ h => h) (Or.inl ⟨by rfl, ?_⟩) ?_ ?_
                rotate_left
                · intro w'
                  go_simp
                  try with_reducible rfl
                rotate_left
                · simp only [Act.put, List.setIfInBounds_toArray, List.set_cons_zero, List.set_cons_succ]
                  rfl
                refine pure_ (i := 1) (N := some 123) (v := ?_) (a' := ?_) #[true, true, false, false, false, false, false, false, false, false, false, false, false] rfl rfl (by kernel_rfl) (fun _ _ _ h => h) (Or.inl ⟨by rfl, ?_⟩) ?_ ?_
                rotate_left
                · intro w'
                  go_simp
                  try with_reducible rfl
                rotate_left
                · simp only [Act.put, List.setIfInBounds_toArray, List.set_cons_zero, List.set_cons_succ]
                  rfl
                refine pure_ (i := 2) (N := some 124) (v := ?_) (a' := ?_) #[true, true, true, false, false, false, false, false, false, false, false, false, false] rfl rfl (by kernel_rfl) (fun _ _ _ h => h) (Or.inl ⟨by rfl, ?_⟩) ?_ ?_
                rotate_left
                · intro w'
                  go_simp
                  try with_reducible rfl
                rotate_left
                · simp only [Act.put, List.setIfInBounds_toArray, List.set_cons_zero, List.set_cons_succ]
                  rfl
                refine take_ (i := 3) (N := some 125) (v := ?_) (a' := ?_) #[true, true, true, true, false, false, false, false, false, false, false, false, false] rfl rfl (by kernel_rfl) (fun _ _ _ h => h) (Or.inl ⟨by rfl, ?_⟩) hHeld ?_ ?_
                rotate_left
                · intro w' hS_
                  obtain ⟨e0_, e1_, e2_, e3_, e4_, e5_⟩ := hS_
                  go_simp
                  try with_reducible rfl
                rotate_left
                · simp only [Act.put, List.setIfInBounds_toArray, List.set_cons_zero, List.set_cons_succ]
                  rfl
                refine take_ (i := 4) (N := some 126) (v := ?_) (a' := ?_) #[true, true, true, true, true, false, false, false, false, false, false, false, false] rfl rfl (by kernel_rfl) (fun _ _ _ h => h) (Or.inl ⟨by rfl, ?_⟩) hHeld ?_ ?_
                rotate_left
                · intro w' hS_
                  obtain ⟨e0_, e1_, e2_, e3_, e4_, e5_⟩ := hS_
                  go_simp
                  try with_reducible rfl
                rotate_left
                · simp only [Act.put, List.setIfInBounds_toArray, List.set_cons_zero, List.set_cons_succ]
                  rfl
                refine pure_ (i := 5) (N := some 127) (v := ?_) (a' := ?_) #[true, true, true, true, true, true, false, false, false, false, false, false, false] rfl rfl (by kernel_rfl) (fun _ _ _ h => h) (Or.inl ⟨by rfl, ?_⟩) ?_ ?_
                rotate_left
                · intro w'
                  go_simp
                  try with_reducible rfl
                rotate_left
                · simp only [Act.put, List.setIfInBounds_toArray, List.set_cons_zero, List.set_cons_succ]
                  rfl
                refine one_ (i := 6) (N := some 128) #[true, true, true, true, true, true, true, false, false, false, false, false, false] rfl rfl (by kernel_rfl) (by decide) (fun K hK => ?_)
                go_simp
                refine hK.out _ _ ?hS (fun hHeld => ?_)
                case hS => exact ⟨pw_cell_below (below_alloc (Below.refl _ _) _) hHeld.1, pw_cell_below (below_alloc (Below.refl _ _) _) hHeld.2.1, pw_cell_below (below_alloc (Below.refl _ _) _) hHeld.2.2.1, pw_cell_below (below_alloc (Below.refl _ _) _) hHeld.2.2.2.1, pw_cell_below (below_alloc (Below.refl _ _) _) hHeld.2.2.2.2.1, pw_cell_below (below_alloc (Below.refl _ _) _) hHeld.2.2.2.2.2⟩
                clear hK K
                refine last_ (i := 7) (N := some 129) #[true, true, true, true, true, true, true, true, false, false, false, false, false] rfl rfl (by kernel_rfl) (by decide) (fun K hK => ?_)
                refine Kd.R_append_step k39 (w0 := W1) W1.heap.size (by rfl) (.tmp 125) (.tmp 128) 37 39 (.agg #[(.int .i64 0), (.string ⟨#[]⟩), (.int .i64 0), (.int .i64 0), (.slice none 0 0)]) 64 rfl Tryd.underlying37 info39 rfl (by decide) (by decide) _ (topN sq).f4 zN [.int .i64 0, .string ⟨#[]⟩, .int .i64 0, .int .i64 0, .slice none 0 0] okw (fun _ => False) rfl rfl (zN_M _ _ _) (fun _ hk => hk.elim) KNEW.out KR4.out KBW.out KSZ.out HLEN.out ?_
                intro v1 w1 hR1 hB1 hg1 hat
                obtain ⟨h1, c1, he, hb1, hl1, _⟩ := Kd.R_form hR1 (by simp)
                simp only [List.length_append, List.length_cons, List.length_nil, Nat.zero_add] at he
                subst he
                have hH1 := Kd.H_grown KHO.out hg1 (fun k hk => HWX.out k (KR4.out.1 k hk))
                obtain ⟨⟨curg, hcg, hfg⟩, hng⟩ := hole_row hH1
                obtain ⟨curh, hch, hfh⟩ := row_at hR1
                have hne : h1 ≠ g := fun he => hng (he ▸ HWX.out h1 (hR1.1 h1 (by simp [Value.ownBlock])))
                have HM1 := Aside0.mk (Kd.M_step KM5.out (fun k hk hlt => hg1.block k hlt (fun he => (HPX.out k hk).2.2 (KR4.out.1 k he.symm))))
                have HDX : Aside0 (∀ k, okp k → okx k ∧ k ≠ h1) := ⟨fun k hk => ⟨(HPX.out k hk).1, fun he => (HPX.out k hk).2.2 (he ▸ hR1.1 h1 (by simp [Value.ownBlock]))⟩⟩
                have HR1 := Aside0.mk hR1
                have HH1 := Aside0.mk hH1
                have HB1 := Aside0.mk hB1
                have HG := Aside0.mk (And.intro hcg hfg)
                have HC := Aside0.mk (And.intro hch hfh)
                have HNEG := Aside0.mk hne
                clear hR1 hH1 hB1 hg1 hat hcg hfg hch hfh hne hng
                refine hK.out _ _ ?_
                clear hK K
                refine norm_ (a' := ?_) ?_ ?_
                rotate_left
                · show Act.put _ (some 129) _ = _
                  simp only [Act.put, List.setIfInBounds_toArray, List.set_cons_zero, List.set_cons_succ]
                  rfl
                have hlt1 : ((topN sq).f4.length : Int) < ((topN sq).f4.length : Int) + 1 := Int.lt_succ _
                refine pure_ (i := 8) (N := some 130) (v := ?_) (a' := ?_) #[true, true, true, true, true, true, true, true, true, false, false, false, false] rfl rfl (by kernel_rfl) (fun _ _ _ h => h) (Or.inl ⟨by rfl, ?_⟩) ?_ ?_
                rotate_left
                · intro w'
                  go_simp
                  try with_reducible rfl
                rotate_left
                · simp only [Act.put, List.setIfInBounds_toArray, List.set_cons_zero, List.set_cons_succ]
                  rfl
                refine pure_ (i := 10) (N := some 131) (v := ?_) (a' := ?_) #[true, true, true, true, true, true, true, true, true, false, true, false, false] rfl rfl (by kernel_rfl) (fun _ _ _ h => h) (Or.inl ⟨by rfl, ?_⟩) ?_ ?_
                rotate_left
                · intro w'
                  go_simp
                  try with_reducible rfl
                rotate_left
                · simp only [Act.put, List.setIfInBounds_toArray, List.set_cons_zero, List.set_cons_succ]
                  rfl
                refine pure_ (i := 11) (N := some 132) (v := ?_) (a' := ?_) #[true, true, true, true, true, true, true, true, true, false, true, true, false] rfl rfl (by kernel_rfl) (fun _ _ _ h => h) (Or.inl ⟨by rfl, ?_⟩) ?_ ?_
                rotate_left
                · intro w'
                  go_simp
                  try with_reducible rfl
                rotate_left
                · simp only [Act.put, List.setIfInBounds_toArray, List.set_cons_zero, List.set_cons_succ]
                  rfl
                have HFIN : ∀ V, V = ((w1.setCells h1 ((topN sq).f4.length * 5) [.int .i64 tx.f0, .string tx.f1, .int .i64 tx.f2, .int .i64 tx.f3, .slice A5 tx.f4.length c5]).setCells g (q * 5 + 4) [.slice (some ⟨h1, 0, none⟩) ((topN sq).f4.length + 1) c1]) → Aside0 (StS V W1.heap.size g cap (addTop sq tx)) ∧ Aside0 (Below W1.heap.size W1 V) := by
                  rintro V rfl
                  have hS := top_put (m := q) HH1.out (Kd.R_mono HR1.out HWX.out) HM1.out rfl HDX.out HMQ.out rfl
                  refine ⟨⟨?_⟩, ⟨cells_below (Kd.S_base HS.out g (by simp [Value.ownBlock])) _ _ (cells_below hb1 _ _ HB1.out)⟩⟩
                  show Kd.S k39 39 _ _ _ (.slice (some ⟨g, 0, none⟩) (addTop sq tx).length cap) _
                  rw [addTop_len, HMQ.out]
                  exact hS
                refine wpAnyLast_ready (rs := [9, 12]) (by kernel_rfl) (by decide) (AllReadyL.cons_last (i := 9) rfl (by decide) (fun K hK => ?_) (AllReadyL.cons_last (i := 12) rfl (by decide) (fun K hK => ?_) AllReadyL.nil))
                · refine store_row (by rfl) rfl 39 (.tmp 130) (.tmp 126) rfl (g := h1) (seg := [.int .i64 tx.f0, .string tx.f1, .int .i64 tx.f2, .int .i64 tx.f3, .slice A5 tx.f4.length c5]) rfl rfl rfl (by kernel_rfl) HC.out.1 (by have := HC.out.2; have h5 : ((topN sq).f4.length + 1) * 5 ≤ curh.size := this; show (topN sq).f4.length * 5 + 5 ≤ curh.size; omega) (by simp [Value.oneCell']) ?_
                  refine hK.out _ _ ?_
                  clear hK K
                  refine last_ (i := 12) (N := none) #[true, true, true, true, true, true, true, true, true, true, true, true, true] rfl rfl (by kernel_rfl) (by decide) (fun K hK => ?_)
                  refine store_row (by rfl) rfl 37 (.tmp 132) (.tmp 129) rfl (g := g) (seg := [.slice (some ⟨h1, 0, none⟩) ((topN sq).f4.length + 1) c1]) rfl rfl rfl (by kernel_rfl) ((setCells_far _ _ g (Ne.symm HNEG.out)).trans HG.out.1) (by have := HG.out.2; have h5 : (q + 1) * 5 ≤ curg.size := this; show q * 5 + 4 + 1 ≤ curg.size; omega) (by simp [Value.oneCell']) ?_
                  refine hK.out _ _ ?_
                  clear hK K
                  refine done_ (by kernel_rfl) ?_
                  obtain ⟨hS9, hB9⟩ := HFIN _ (rfl)
                  clear HFIN
                  go_wp2
                  go_roundg (l.length - (i + 1))
                  case measure => have := HN.out; omega
                  case rel => exact ⟨i + 1, _, g, cap, by go_num, by rw [addTop_len, HMQ.out], HP2, hS9, hB9, ⟨by omega⟩, HO2⟩
                · refine store_row (by rfl) rfl 37 (.tmp 132) (.tmp 129) rfl (g := g) (seg := [.slice (some ⟨h1, 0, none⟩) ((topN sq).f4.length + 1) c1]) rfl rfl rfl (by kernel_rfl) HG.out.1 (by have := HG.out.2; have h5 : (q + 1) * 5 ≤ curg.size := this; show q * 5 + 4 + 1 ≤ curg.size; omega) (by simp [Value.oneCell']) ?_
                  refine hK.out _ _ ?_
                  clear hK K
                  refine last_ (i := 9) (N := none) #[true, true, true, true, true, true, true, true, true, true, true, true, true] rfl rfl (by kernel_rfl) (by decide) (fun K hK => ?_)
                  refine store_row (by rfl) rfl 39 (.tmp 130) (.tmp 126) rfl (g := h1) (seg := [.int .i64 tx.f0, .string tx.f1, .int .i64 tx.f2, .int .i64 tx.f3, .slice A5 tx.f4.length c5]) rfl rfl rfl (by kernel_rfl) ((setCells_far _ _ h1 HNEG.out).trans HC.out.1) (by have := HC.out.2; have h5 : ((topN sq).f4.length + 1) * 5 ≤ curh.size := this; show (topN sq).f4.length * 5 + 5 ≤ curh.size; omega) (by simp [Value.oneCell']) ?_
                  refine hK.out _ _ ?_
                  clear hK K
                  refine done_ (by kernel_rfl) ?_
                  obtain ⟨hS9, hB9⟩ := HFIN _ ((setCells_setCell (p := ⟨g, q * 5 + 4, none⟩) HNEG.out _ _ _ _).symm)
                  clear HFIN
                  go_wp2
                  go_roundg (l.length - (i + 1))
                  case measure => have := HN.out; omega
                  case rel => exact ⟨i + 1, _, g, cap, by go_num, by rw [addTop_len, HMQ.out], HP2, hS9, hB9, ⟨by omega⟩, HO2⟩
              · have hz : doesI t = 0 := by have := doesI_cases t; omega
                have HP2 : Aside0 (parseL (l.drop (i + 1)) (addTop st ⟨t.f0, t.f1, t.f2, t.f3, []⟩) = R) := ⟨by rw [← HP.out]; symm; rw [parseL, if_neg hfull, if_neg hd3, if_neg hd2, if_neg (show ¬ (doesI t = 1 ∧ st.length > 16) from fun h => hd1 h.1), if_neg hd1, if_neg hd0]⟩
                have HO2 : Aside0 (stOk (i + 1) (addTop st ⟨t.f0, t.f1, t.f2, t.f3, []⟩)) := ⟨stOk_add i st _ HO.out⟩
                have HLEN : Aside0 (((topN st).f4.length + 1) * 64 ≤ 140737488355328) := ⟨by have := HO.out.2.2 _ (topN_mem st HO.out.1); have := HN.out; omega⟩
                rw [hz] at HD
                have hmb : m ≤ 1000 := by have := HM.out; have := HO.out.2.1; have := HN.out; omega
                clear HP
                by_cases hm0 : m = 0
                · have b2 : (((topN st).f4.length : Int) == 1) = false := beq_eq_false_iff_ne.2 (by have := HM.out; omega)
                  clear hfull hd3 hd2 hd1 hd0 hz hmb
                  subst hm0
                  simp only [Nat.zero_mul, Nat.zero_add] at htop
                  clear q0 q1 q2 q3 q4 f0 f1 f2 f3 f4
                  go_wp2_with (go_at_call 45; refine (HD.out _).mono ?_; rintro e2 W2 ⟨rfl, hB2⟩; have KB2 := Aside0.mk (below_step (below_alloc (Below.refl wr.heap.size wr) _) hB2); have htop2 := pw_cell_below KB2.out htop; have tb := blk_below (blk_new wr (.cells #[.int .i64 t.f0, .string t.f1, .int .i64 t.f2, .int .i64 t.f3] 29)) hB2; have TB := Aside0.mk tb; have tb0 := (blk_cell tb 0).trans rfl; have tb1 := (blk_cell tb 1).trans rfl; have tb2 := (blk_cell tb 2).trans rfl; have tb3 : W2.cell? ⟨wr.heap.size, 3, none⟩ = some (.int .i64 t.f3) := (blk_cell tb 3).trans rfl; have bx2 := blk_below HBX.out KB2.out; have BX2 := Aside0.mk bx2; have r0 := (blk_cell bx2 0).trans rfl; have r1 := (blk_cell bx2 1).trans rfl; have r2 := (blk_cell bx2 2).trans rfl; have r3 := (blk_cell bx2 3).trans rfl; have r4 := (blk_cell bx2 4).trans rfl; have s0 := blk_frozen bx2 0; have s1 := blk_frozen bx2 1; have s2 := blk_frozen bx2 2; have s3 := blk_frozen bx2 3; have s4 := blk_frozen bx2 4; have hSd := Kd.S_below HS.out (below_drew1 KB2.out); rw [HM.out] at hSd; obtain ⟨okw, A5, c5, hnew, hR4, hcell, hH⟩ := top_open (m := 0) hSd HM.out rfl; have HNEW := Aside0.mk hnew; have HR4 := Aside0.mk hR4; have HCELL : W2.drew.cell? ⟨g, 4, none⟩ = some (.slice A5 (topN st).f4.length c5) := hcell; have HHO := Aside0.mk hH; have HBW := Aside0.mk (below_drew1 (below_step HBl.out KB2.out)); have HSZ := Aside0.mk (below_size HBW.out); have HHCELL := Aside0.mk HCELL; clear hB2 tb bx2 htop r0 r1 r2 r3 r4 s0 s1 s2 s3 s4 hSd hnew hR4 hH hcell)
                  refine start_ (n := 21) (S := fun V => V.cell? ⟨wr.heap.size, 0, none⟩ = some (.int .i64 t.f0) ∧ V.cell? ⟨wr.heap.size, 1, none⟩ = some (.string t.f1) ∧ V.cell? ⟨wr.heap.size, 2, none⟩ = some (.int .i64 t.f2) ∧ V.cell? ⟨wr.heap.size, 3, none⟩ = some (.int .i64 t.f3) ∧ V.cell? ⟨g, 4, none⟩ = some (.slice A5 (topN st).f4.length c5)) (ds := [15, 17, 20]) #[false, false, false, false, false, false, false, false, false, false, false, false, false, false, false, false, false, false, false, false, false] (by kernel_rfl) rfl rfl ⟨tb0, tb1, tb2, tb3, HHCELL.out⟩ (fun hHeld => ?_)
                  refine pure_ (i := 0) (N := some 53) (v := ?_) (a' := ?_) #[true, false, false, false, false, false, false, false, false, false, false, false, false, false, false, false, false, false, false, false, false] rfl rfl (by kernel_rfl) (fun _ _ _ h => h) (Or.inl ⟨by rfl, ?_⟩) ?_ ?_
                  rotate_left
                  · intro w'
                    go_simp
                    try with_reducible rfl
                  rotate_left
                  · simp only [Act.put, List.setIfInBounds_toArray, List.set_cons_zero, List.set_cons_succ]
                    rfl
                  refine pure_ (i := 1) (N := some 54) (v := ?_) (a' := ?_) #[true, true, false, false, false, false, false, false, false, false, false, false, false, false, false, false, false, false, false, false, false] rfl rfl (by kernel_rfl) (fun _ _ _ h => h) (Or.inl ⟨by rfl, ?_⟩) ?_ ?_
                  rotate_left
                  · intro w'
                    go_simp
                    try with_reducible rfl
                  rotate_left
                  · simp only [Act.put, List.setIfInBounds_toArray, List.set_cons_zero, List.set_cons_succ]
                    rfl
                  refine pure_ (i := 2) (N := some 55) (v := ?_) (a' := ?_) #[true, true, true, false, false, false, false, false, false, false, false, false, false, false, false, false, false, false, false, false, false] rfl rfl (by kernel_rfl) (fun _ _ _ h => h) (Or.inl ⟨by rfl, ?_⟩) ?_ ?_
                  rotate_left
                  · intro w'
                    go_simp
                    try with_reducible rfl
                  rotate_left
                  · simp only [Act.put, List.setIfInBounds_toArray, List.set_cons_zero, List.set_cons_succ]
                    rfl
                  refine take_ (i := 3) (N := some 56) (v := ?_) (a' := ?_) #[true, true, true, true, false, false, false, false, false, false, false, false, false, false, false, false, false, false, false, false, false] rfl rfl (by kernel_rfl) (fun _ _ _ h => h) (Or.inl ⟨by rfl, ?_⟩) hHeld ?_ ?_
                  rotate_left
                  · intro w' hS_
                    obtain ⟨e0_, e1_, e2_, e3_, e4_⟩ := hS_
                    go_simp
                    try with_reducible rfl
                  rotate_left
                  · simp only [Act.put, List.setIfInBounds_toArray, List.set_cons_zero, List.set_cons_succ]
                    rfl
                  refine pure_ (i := 4) (N := some 57) (v := ?_) (a' := ?_) #[true, true, true, true, true, false, false, false, false, false, false, false, false, false, false, false, false, false, false, false, false] rfl rfl (by kernel_rfl) (fun _ _ _ h => h) (Or.inl ⟨by rfl, ?_⟩) ?_ ?_
                  rotate_left
                  · intro w'
                    go_simp
                    try with_reducible rfl
                  rotate_left
                  · simp only [Act.put, List.setIfInBounds_toArray, List.set_cons_zero, List.set_cons_succ]
                    rfl
                  refine take_ (i := 5) (N := some 58) (v := ?_) (a' := ?_) #[true, true, true, true, true, true, false, false, false, false, false, false, false, false, false, false, false, false, false, false, false] rfl rfl (by kernel_rfl) (fun _ _ _ h => h) (Or.inl ⟨by rfl, ?_⟩) hHeld ?_ ?_
                  rotate_left
                  · intro w' hS_
                    obtain ⟨e0_, e1_, e2_, e3_, e4_⟩ := hS_
                    go_simp
                    try with_reducible rfl
                  rotate_left
                  · simp only [Act.put, List.setIfInBounds_toArray, List.set_cons_zero, List.set_cons_succ]
                    rfl
                  refine pure_ (i := 6) (N := some 59) (v := ?_) (a' := ?_) #[true, true, true, true, true, true, true, false, false, false, false, false, false, false, false, false, false, false, false, false, false] rfl rfl (by kernel_rfl) (fun _ _ _ h => h) (Or.inl ⟨by rfl, ?_⟩) ?_ ?_
                  rotate_left
                  · intro w'
                    go_simp
                    try with_reducible rfl
                  rotate_left
                  · simp only [Act.put, List.setIfInBounds_toArray, List.set_cons_zero, List.set_cons_succ]
                    rfl
                  refine take_ (i := 7) (N := some 60) (v := ?_) (a' := ?_) #[true, true, true, true, true, true, true, true, false, false, false, false, false, false, false, false, false, false, false, false, false] rfl rfl (by kernel_rfl) (fun _ _ _ h => h) (Or.inl ⟨by rfl, ?_⟩) hHeld ?_ ?_
                  rotate_left
                  · intro w' hS_
                    obtain ⟨e0_, e1_, e2_, e3_, e4_⟩ := hS_
                    go_simp
                    try with_reducible rfl
                  rotate_left
                  · simp only [Act.put, List.setIfInBounds_toArray, List.set_cons_zero, List.set_cons_succ]
                    rfl
                  refine pure_ (i := 8) (N := some 61) (v := ?_) (a' := ?_) #[true, true, true, true, true, true, true, true, true, false, false, false, false, false, false, false, false, false, false, false, false] rfl rfl (by kernel_rfl) (fun _ _ _ h => h) (Or.inl ⟨by rfl, ?_⟩) ?_ ?_
                  rotate_left
                  · intro w'
                    go_simp
                    try with_reducible rfl
                  rotate_left
                  · simp only [Act.put, List.setIfInBounds_toArray, List.set_cons_zero, List.set_cons_succ]
                    rfl
                  refine take_ (i := 9) (N := some 62) (v := ?_) (a' := ?_) #[true, true, true, true, true, true, true, true, true, true, false, false, false, false, false, false, false, false, false, false, false] rfl rfl (by kernel_rfl) (fun _ _ _ h => h) (Or.inl ⟨by rfl, ?_⟩) hHeld ?_ ?_
                  rotate_left
                  · intro w' hS_
                    obtain ⟨e0_, e1_, e2_, e3_, e4_⟩ := hS_
                    go_simp
                    try with_reducible rfl
                  rotate_left
                  · simp only [Act.put, List.setIfInBounds_toArray, List.set_cons_zero, List.set_cons_succ]
                    rfl
                  refine pure_ (i := 10) (N := some 63) (v := ?_) (a' := ?_) #[true, true, true, true, true, true, true, true, true, true, true, false, false, false, false, false, false, false, false, false, false] rfl rfl (by kernel_rfl) (fun _ _ _ h => h) (Or.inl ⟨by rfl, ?_⟩) ?_ ?_
                  rotate_left
                  · intro w'
                    go_simp
                    try with_reducible rfl
                  rotate_left
                  · simp only [Act.put, List.setIfInBounds_toArray, List.set_cons_zero, List.set_cons_succ]
                    rfl
                  refine take_ (i := 11) (N := some 64) (v := ?_) (a' := ?_) #[true, true, true, true, true, true, true, true, true, true, true, true, false, false, false, false, false, false, false, false, false] rfl rfl (by kernel_rfl) (fun _ _ _ h => h) (Or.inl ⟨by rfl, ?_⟩) hHeld ?_ ?_
                  rotate_left
                  · intro w' hS_
                    obtain ⟨e0_, e1_, e2_, e3_, e4_⟩ := hS_
                    go_simp
                    try with_reducible rfl
                  rotate_left
                  · simp only [Act.put, List.setIfInBounds_toArray, List.set_cons_zero, List.set_cons_succ]
                    rfl
                  refine pure_ (i := 12) (N := some 65) (v := ?_) (a' := ?_) #[true, true, true, true, true, true, true, true, true, true, true, true, true, false, false, false, false, false, false, false, false] rfl rfl (by kernel_rfl) (fun _ _ _ h => h) (Or.inl ⟨by rfl, ?_⟩) ?_ ?_
                  rotate_left
                  · intro w'
                    go_simp
                    try with_reducible rfl
                  rotate_left
                  · simp only [Act.put, List.setIfInBounds_toArray, List.set_cons_zero, List.set_cons_succ]
                    rfl
                  refine pure_ (i := 13) (N := some 66) (v := ?_) (a' := ?_) #[true, true, true, true, true, true, true, true, true, true, true, true, true, true, false, false, false, false, false, false, false] rfl rfl (by kernel_rfl) (fun _ _ _ h => h) (Or.inl ⟨by rfl, ?_⟩) ?_ ?_
                  rotate_left
                  · intro w'
                    go_simp
                    try with_reducible rfl
                  rotate_left
                  · simp only [Act.put, List.setIfInBounds_toArray, List.set_cons_zero, List.set_cons_succ]
                    rfl
                  refine one_ (i := 14) (N := some 67) #[true, true, true, true, true, true, true, true, true, true, true, true, true, true, true, false, false, false, false, false, false] rfl rfl (by kernel_rfl) (by decide) (fun K hK => ?_)
                  go_simp
                  refine hK.out _ _ ?hS (fun hHeld => ?_)
                  case hS => exact ⟨pw_cell_below (below_alloc (Below.refl _ _) _) hHeld.1, pw_cell_below (below_alloc (Below.refl _ _) _) hHeld.2.1, pw_cell_below (below_alloc (Below.refl _ _) _) hHeld.2.2.1, pw_cell_below (below_alloc (Below.refl _ _) _) hHeld.2.2.2.1, pw_cell_below (below_alloc (Below.refl _ _) _) hHeld.2.2.2.2⟩
                  clear hK K
                  refine last_ (i := 15) (N := some 68) #[true, true, true, true, true, true, true, true, true, true, true, true, true, true, true, true, false, false, false, false, false] rfl rfl (by kernel_rfl) (by decide) (fun K hK => ?_)
                  refine Kd.R_append_step k39 (w0 := W1) W1.heap.size (by rfl) (.tmp 56) (.tmp 67) 37 39 (.agg #[(.int .i64 0), (.string ⟨#[]⟩), (.int .i64 0), (.int .i64 0), (.slice none 0 0)]) 64 rfl Tryd.underlying37 info39 rfl (by decide) (by decide) _ (topN st).f4 zN [.int .i64 0, .string ⟨#[]⟩, .int .i64 0, .int .i64 0, .slice none 0 0] okw (fun _ => False) rfl rfl (zN_M _ _ _) (fun _ hk => hk.elim) HNEW.out HR4.out HBW.out HSZ.out HLEN.out ?_
                  intro v1 w1 hR1 hB1 hg1 hat
                  obtain ⟨h1, c1, he, hb1, hl1, _⟩ := Kd.R_form hR1 (by simp)
                  simp only [List.length_append, List.length_cons, List.length_nil, Nat.zero_add] at he
                  subst he
                  have hH1 := Kd.H_grown HHO.out hg1 (fun k hk => HR4.out.1 k hk)
                  obtain ⟨⟨curg, hcg, hfg⟩, hng⟩ := hole_row hH1
                  obtain ⟨curh, hch, hfh⟩ := row_at hR1
                  have hne : h1 ≠ g := fun he => hng (he ▸ hR1.1 h1 (by simp [Value.ownBlock]))
                  have HR1 := Aside0.mk hR1
                  have HH1 := Aside0.mk hH1
                  have HB1 := Aside0.mk hB1
                  have HG := Aside0.mk (And.intro hcg hfg)
                  have HC := Aside0.mk (And.intro hch hfh)
                  have HNEG := Aside0.mk hne
                  clear hR1 hH1 hB1 hg1 hat hcg hfg hch hfh hne hng
                  refine hK.out _ _ ?_
                  clear hK K
                  refine norm_ (a' := ?_) ?_ ?_
                  rotate_left
                  · show Act.put _ (some 68) _ = _
                    simp only [Act.put, List.setIfInBounds_toArray, List.set_cons_zero, List.set_cons_succ]
                    rfl
                  have hlt1 : ((topN st).f4.length : Int) < ((topN st).f4.length : Int) + 1 := Int.lt_succ _
                  refine pure_ (i := 16) (N := some 69) (v := ?_) (a' := ?_) #[true, true, true, true, true, true, true, true, true, true, true, true, true, true, true, true, true, false, false, false, false] rfl rfl (by kernel_rfl) (fun _ _ _ h => h) (Or.inl ⟨by rfl, ?_⟩) ?_ ?_
                  rotate_left
                  · intro w'
                    go_simp
                    try with_reducible rfl
                  rotate_left
                  · simp only [Act.put, List.setIfInBounds_toArray, List.set_cons_zero, List.set_cons_succ]
                    rfl
                  refine pure_ (i := 18) (N := some 70) (v := ?_) (a' := ?_) #[true, true, true, true, true, true, true, true, true, true, true, true, true, true, true, true, true, false, true, false, false] rfl rfl (by kernel_rfl) (fun _ _ _ h => h) (Or.inl ⟨by rfl, ?_⟩) ?_ ?_
                  rotate_left
                  · intro w'
                    go_simp
                    try with_reducible rfl
                  rotate_left
                  · simp only [Act.put, List.setIfInBounds_toArray, List.set_cons_zero, List.set_cons_succ]
                    rfl
                  refine pure_ (i := 19) (N := some 71) (v := ?_) (a' := ?_) #[true, true, true, true, true, true, true, true, true, true, true, true, true, true, true, true, true, false, true, true, false] rfl rfl (by kernel_rfl) (fun _ _ _ h => h) (Or.inl ⟨by rfl, ?_⟩) ?_ ?_
                  rotate_left
                  · intro w'
                    go_simp
                    try with_reducible rfl
                  rotate_left
                  · simp only [Act.put, List.setIfInBounds_toArray, List.set_cons_zero, List.set_cons_succ]
                    rfl
                  have HFIN : ∀ V, V = ((w1.setCells h1 ((topN st).f4.length * 5) [.int .i64 t.f0, .string t.f1, .int .i64 t.f2, .int .i64 t.f3, .slice none 0 0]).setCells g (4) [.slice (some ⟨h1, 0, none⟩) ((topN st).f4.length + 1) c1]) → Aside0 (StS V W1.heap.size g cap (addTop st ⟨t.f0, t.f1, t.f2, t.f3, []⟩)) ∧ Aside0 (Below W1.heap.size W1 V) := by
                    rintro V rfl
                    have hS := top_put (m := 0) HH1.out HR1.out (k39_mkM w1 W1.heap.size (fun _ => False) ⟨t.f0, t.f1, t.f2, t.f3, []⟩ (Kd.R_nil _ _ _ _ _)) rfl (fun _ hk => hk.elim) HM.out rfl
                    refine ⟨⟨?_⟩, ⟨cells_below (Kd.S_base HS.out g (by simp [Value.ownBlock])) _ _ (cells_below hb1 _ _ HB1.out)⟩⟩
                    show Kd.S k39 39 _ _ _ (.slice (some ⟨g, 0, none⟩) (addTop st ⟨t.f0, t.f1, t.f2, t.f3, []⟩).length cap) _
                    rw [addTop_len, HM.out]
                    exact hS
                  refine wpAnyLast_ready (rs := [17, 20]) (by kernel_rfl) (by decide) (AllReadyL.cons_last (i := 17) rfl (by decide) (fun K hK => ?_) (AllReadyL.cons_last (i := 20) rfl (by decide) (fun K hK => ?_) AllReadyL.nil))
                  · refine store_row (by rfl) rfl 39 (.tmp 69) (.tmp 65) rfl (g := h1) (seg := [.int .i64 t.f0, .string t.f1, .int .i64 t.f2, .int .i64 t.f3, .slice none 0 0]) rfl rfl rfl (by kernel_rfl) HC.out.1 (by have := HC.out.2; have h5 : ((topN st).f4.length + 1) * 5 ≤ curh.size := this; show (topN st).f4.length * 5 + 5 ≤ curh.size; omega) (by simp [Value.oneCell']) ?_
                    refine hK.out _ _ ?_
                    clear hK K
                    refine last_ (i := 20) (N := none) #[true, true, true, true, true, true, true, true, true, true, true, true, true, true, true, true, true, true, true, true, true] rfl rfl (by kernel_rfl) (by decide) (fun K hK => ?_)
                    refine store_row (by rfl) rfl 37 (.tmp 71) (.tmp 68) rfl (g := g) (seg := [.slice (some ⟨h1, 0, none⟩) ((topN st).f4.length + 1) c1]) rfl rfl rfl (by kernel_rfl) ((setCells_far _ _ g (Ne.symm HNEG.out)).trans HG.out.1) (by have := HG.out.2; have h5 : (0 + 1) * 5 ≤ curg.size := this; show 4 + 1 ≤ curg.size; omega) (by simp [Value.oneCell']) ?_
                    refine hK.out _ _ ?_
                    clear hK K
                    refine done_ (by kernel_rfl) ?_
                    obtain ⟨hS9, hB9⟩ := HFIN _ (rfl)
                    clear HFIN
                    go_wp2
                    go_roundg (l.length - (i + 1))
                    case measure => have := HN.out; omega
                    case rel => exact ⟨i + 1, _, g, cap, by go_num, by rw [addTop_len, HM.out], HP2, hS9, hB9, ⟨by omega⟩, HO2⟩
                  · refine store_row (by rfl) rfl 37 (.tmp 71) (.tmp 68) rfl (g := g) (seg := [.slice (some ⟨h1, 0, none⟩) ((topN st).f4.length + 1) c1]) rfl rfl rfl (by kernel_rfl) HG.out.1 (by have := HG.out.2; have h5 : (0 + 1) * 5 ≤ curg.size := this; show 4 + 1 ≤ curg.size; omega) (by simp [Value.oneCell']) ?_
                    refine hK.out _ _ ?_
                    clear hK K
                    refine last_ (i := 17) (N := none) #[true, true, true, true, true, true, true, true, true, true, true, true, true, true, true, true, true, true, true, true, true] rfl rfl (by kernel_rfl) (by decide) (fun K hK => ?_)
                    refine store_row (by rfl) rfl 39 (.tmp 69) (.tmp 65) rfl (g := h1) (seg := [.int .i64 t.f0, .string t.f1, .int .i64 t.f2, .int .i64 t.f3, .slice none 0 0]) rfl rfl rfl (by kernel_rfl) ((setCells_far _ _ h1 HNEG.out).trans HC.out.1) (by have := HC.out.2; have h5 : ((topN st).f4.length + 1) * 5 ≤ curh.size := this; show (topN st).f4.length * 5 + 5 ≤ curh.size; omega) (by simp [Value.oneCell']) ?_
                    refine hK.out _ _ ?_
                    clear hK K
                    refine done_ (by kernel_rfl) ?_
                    obtain ⟨hS9, hB9⟩ := HFIN _ ((setCells_setCell (p := ⟨g, 4, none⟩) HNEG.out _ _ _ _).symm)
                    clear HFIN
                    go_wp2
                    go_roundg (l.length - (i + 1))
                    case measure => have := HN.out; omega
                    case rel => exact ⟨i + 1, _, g, cap, by go_num, by rw [addTop_len, HM.out], HP2, hS9, hB9, ⟨by omega⟩, HO2⟩
                · have b1 : (((m : Int) + 1) == 1) = false := beq_eq_false_iff_ne.2 (by omega)
                  clear hfull hd3 hd2 hd1 hd0 hz
                  clear q0 q1 q2 q3 q4 f0 f1 f2 f3 f4
                  go_wp2_with (go_at_call 45; refine (HD.out _).mono ?_; rintro e2 W2 ⟨rfl, hB2⟩; have KB2 := Aside0.mk (below_step (below_alloc (Below.refl wr.heap.size wr) _) hB2); have htop2 := pw_cell_below KB2.out htop; have tb := blk_below (blk_new wr (.cells #[.int .i64 t.f0, .string t.f1, .int .i64 t.f2, .int .i64 t.f3] 29)) hB2; have TB := Aside0.mk tb; have tb0 := (blk_cell tb 0).trans rfl; have tb1 := (blk_cell tb 1).trans rfl; have tb2 := (blk_cell tb 2).trans rfl; have tb3 : W2.cell? ⟨wr.heap.size, 3, none⟩ = some (.int .i64 t.f3) := (blk_cell tb 3).trans rfl; have bx2 := blk_below HBX.out KB2.out; have BX2 := Aside0.mk bx2; have r0 := (blk_cell bx2 0).trans rfl; have r1 := (blk_cell bx2 1).trans rfl; have r2 := (blk_cell bx2 2).trans rfl; have r3 := (blk_cell bx2 3).trans rfl; have r4 := (blk_cell bx2 4).trans rfl; have s0 := blk_frozen bx2 0; have s1 := blk_frozen bx2 1; have s2 := blk_frozen bx2 2; have s3 := blk_frozen bx2 3; have s4 := blk_frozen bx2 4; have hSd := Kd.S_below HS.out (below_drew1 KB2.out); rw [HM.out] at hSd; obtain ⟨okw, A5, c5, hnew, hR4, hcell, hH⟩ := top_open (m := m) hSd HM.out rfl; have HNEW := Aside0.mk hnew; have HR4 := Aside0.mk hR4; have HCELL : W2.drew.cell? ⟨g, m * 5 + 4, none⟩ = some (.slice A5 (topN st).f4.length c5) := hcell; have HHO := Aside0.mk hH; have HBW := Aside0.mk (below_drew1 (below_step HBl.out KB2.out)); have HSZ := Aside0.mk (below_size HBW.out); have HHCELL := Aside0.mk HCELL; clear hB2 tb bx2 htop r0 r1 r2 r3 r4 s0 s1 s2 s3 s4 hSd hnew hR4 hH hcell)
                  refine start_ (n := 21) (S := fun V => V.cell? ⟨wr.heap.size, 0, none⟩ = some (.int .i64 t.f0) ∧ V.cell? ⟨wr.heap.size, 1, none⟩ = some (.string t.f1) ∧ V.cell? ⟨wr.heap.size, 2, none⟩ = some (.int .i64 t.f2) ∧ V.cell? ⟨wr.heap.size, 3, none⟩ = some (.int .i64 t.f3) ∧ V.cell? ⟨g, m * 5 + 4, none⟩ = some (.slice A5 (topN st).f4.length c5)) (ds := [15, 17, 20]) #[false, false, false, false, false, false, false, false, false, false, false, false, false, false, false, false, false, false, false, false, false] (by kernel_rfl) rfl rfl ⟨tb0, tb1, tb2, tb3, HHCELL.out⟩ (fun hHeld => ?_)
                  refine pure_ (i := 0) (N := some 53) (v := ?_) (a' := ?_) #[true, false, false, false, false, false, false, false, false, false, false, false, false, false, false, false, false, false, false, false, false] rfl rfl (by kernel_rfl) (fun _ _ _ h => h) (Or.inl ⟨by rfl, ?_⟩) ?_ ?_
                  rotate_left
                  · intro w'
                    go_simp
                    try with_reducible rfl
                  rotate_left
                  · simp only [Act.put, List.setIfInBounds_toArray, List.set_cons_zero, List.set_cons_succ]
                    rfl
                  refine pure_ (i := 1) (N := some 54) (v := ?_) (a' := ?_) #[true, true, false, false, false, false, false, false, false, false, false, false, false, false, false, false, false, false, false, false, false] rfl rfl (by kernel_rfl) (fun _ _ _ h => h) (Or.inl ⟨by rfl, ?_⟩) ?_ ?_
                  rotate_left
                  · intro w'
                    go_simp
                    try with_reducible rfl
                  rotate_left
                  · simp only [Act.put, List.setIfInBounds_toArray, List.set_cons_zero, List.set_cons_succ]
                    rfl
                  refine pure_ (i := 2) (N := some 55) (v := ?_) (a' := ?_) #[true, true, true, false, false, false, false, false, false, false, false, false, false, false, false, false, false, false, false, false, false] rfl rfl (by kernel_rfl) (fun _ _ _ h => h) (Or.inl ⟨by rfl, ?_⟩) ?_ ?_
                  rotate_left
                  · intro w'
                    go_simp
                    try with_reducible rfl
                  rotate_left
                  · simp only [Act.put, List.setIfInBounds_toArray, List.set_cons_zero, List.set_cons_succ]
                    rfl
                  refine take_ (i := 3) (N := some 56) (v := ?_) (a' := ?_) #[true, true, true, true, false, false, false, false, false, false, false, false, false, false, false, false, false, false, false, false, false] rfl rfl (by kernel_rfl) (fun _ _ _ h => h) (Or.inl ⟨by rfl, ?_⟩) hHeld ?_ ?_
                  rotate_left
                  · intro w' hS_
                    obtain ⟨e0_, e1_, e2_, e3_, e4_⟩ := hS_
                    go_simp
                    try with_reducible rfl
                  rotate_left
                  · simp only [Act.put, List.setIfInBounds_toArray, List.set_cons_zero, List.set_cons_succ]
                    rfl
                  refine pure_ (i := 4) (N := some 57) (v := ?_) (a' := ?_) #[true, true, true, true, true, false, false, false, false, false, false, false, false, false, false, false, false, false, false, false, false] rfl rfl (by kernel_rfl) (fun _ _ _ h => h) (Or.inl ⟨by rfl, ?_⟩) ?_ ?_
                  rotate_left
                  · intro w'
                    go_simp
                    try with_reducible rfl
                  rotate_left
                  · simp only [Act.put, List.setIfInBounds_toArray, List.set_cons_zero, List.set_cons_succ]
                    rfl
                  refine take_ (i := 5) (N := some 58) (v := ?_) (a' := ?_) #[true, true, true, true, true, true, false, false, false, false, false, false, false, false, false, false, false, false, false, false, false] rfl rfl (by kernel_rfl) (fun _ _ _ h => h) (Or.inl ⟨by rfl, ?_⟩) hHeld ?_ ?_
                  rotate_left
                  · intro w' hS_
                    obtain ⟨e0_, e1_, e2_, e3_, e4_⟩ := hS_
                    go_simp
                    try with_reducible rfl
                  rotate_left
                  · simp only [Act.put, List.setIfInBounds_toArray, List.set_cons_zero, List.set_cons_succ]
                    rfl
                  refine pure_ (i := 6) (N := some 59) (v := ?_) (a' := ?_) #[true, true, true, true, true, true, true, false, false, false, false, false, false, false, false, false, false, false, false, false, false] rfl rfl (by kernel_rfl) (fun _ _ _ h => h) (Or.inl ⟨by rfl, ?_⟩) ?_ ?_
                  rotate_left
                  · intro w'
                    go_simp
                    try with_reducible rfl
                  rotate_left
                  · simp only [Act.put, List.setIfInBounds_toArray, List.set_cons_zero, List.set_cons_succ]
                    rfl
                  refine take_ (i := 7) (N := some 60) (v := ?_) (a' := ?_) #[true, true, true, true, true, true, true, true, false, false, false, false, false, false, false, false, false, false, false, false, false] rfl rfl (by kernel_rfl) (fun _ _ _ h => h) (Or.inl ⟨by rfl, ?_⟩) hHeld ?_ ?_
                  rotate_left
                  · intro w' hS_
                    obtain ⟨e0_, e1_, e2_, e3_, e4_⟩ := hS_
                    go_simp
                    try with_reducible rfl
                  rotate_left
                  · simp only [Act.put, List.setIfInBounds_toArray, List.set_cons_zero, List.set_cons_succ]
                    rfl
                  refine pure_ (i := 8) (N := some 61) (v := ?_) (a' := ?_) #[true, true, true, true, true, true, true, true, true, false, false, false, false, false, false, false, false, false, false, false, false] rfl rfl (by kernel_rfl) (fun _ _ _ h => h) (Or.inl ⟨by rfl, ?_⟩) ?_ ?_
                  rotate_left
                  · intro w'
                    go_simp
                    try with_reducible rfl
                  rotate_left
                  · simp only [Act.put, List.setIfInBounds_toArray, List.set_cons_zero, List.set_cons_succ]
                    rfl
                  refine take_ (i := 9) (N := some 62) (v := ?_) (a' := ?_) #[true, true, true, true, true, true, true, true, true, true, false, false, false, false, false, false, false, false, false, false, false] rfl rfl (by kernel_rfl) (fun _ _ _ h => h) (Or.inl ⟨by rfl, ?_⟩) hHeld ?_ ?_
                  rotate_left
                  · intro w' hS_
                    obtain ⟨e0_, e1_, e2_, e3_, e4_⟩ := hS_
                    go_simp
                    try with_reducible rfl
                  rotate_left
                  · simp only [Act.put, List.setIfInBounds_toArray, List.set_cons_zero, List.set_cons_succ]
                    rfl
                  refine pure_ (i := 10) (N := some 63) (v := ?_) (a' := ?_) #[true, true, true, true, true, true, true, true, true, true, true, false, false, false, false, false, false, false, false, false, false] rfl rfl (by kernel_rfl) (fun _ _ _ h => h) (Or.inl ⟨by rfl, ?_⟩) ?_ ?_
                  rotate_left
                  · intro w'
                    go_simp
                    try with_reducible rfl
                  rotate_left
                  · simp only [Act.put, List.setIfInBounds_toArray, List.set_cons_zero, List.set_cons_succ]
                    rfl
                  refine take_ (i := 11) (N := some 64) (v := ?_) (a' := ?_) #[true, true, true, true, true, true, true, true, true, true, true, true, false, false, false, false, false, false, false, false, false] rfl rfl (by kernel_rfl) (fun _ _ _ h => h) (Or.inl ⟨by rfl, ?_⟩) hHeld ?_ ?_
                  rotate_left
                  · intro w' hS_
                    obtain ⟨e0_, e1_, e2_, e3_, e4_⟩ := hS_
                    go_simp
                    try with_reducible rfl
                  rotate_left
                  · simp only [Act.put, List.setIfInBounds_toArray, List.set_cons_zero, List.set_cons_succ]
                    rfl
                  refine pure_ (i := 12) (N := some 65) (v := ?_) (a' := ?_) #[true, true, true, true, true, true, true, true, true, true, true, true, true, false, false, false, false, false, false, false, false] rfl rfl (by kernel_rfl) (fun _ _ _ h => h) (Or.inl ⟨by rfl, ?_⟩) ?_ ?_
                  rotate_left
                  · intro w'
                    go_simp
                    try with_reducible rfl
                  rotate_left
                  · simp only [Act.put, List.setIfInBounds_toArray, List.set_cons_zero, List.set_cons_succ]
                    rfl
                  refine pure_ (i := 13) (N := some 66) (v := ?_) (a' := ?_) #[true, true, true, true, true, true, true, true, true, true, true, true, true, true, false, false, false, false, false, false, false] rfl rfl (by kernel_rfl) (fun _ _ _ h => h) (Or.inl ⟨by rfl, ?_⟩) ?_ ?_
                  rotate_left
                  · intro w'
                    go_simp
                    try with_reducible rfl
                  rotate_left
                  · simp only [Act.put, List.setIfInBounds_toArray, List.set_cons_zero, List.set_cons_succ]
                    rfl
                  refine one_ (i := 14) (N := some 67) #[true, true, true, true, true, true, true, true, true, true, true, true, true, true, true, false, false, false, false, false, false] rfl rfl (by kernel_rfl) (by decide) (fun K hK => ?_)
                  go_simp
                  refine hK.out _ _ ?hS (fun hHeld => ?_)
                  case hS => exact ⟨pw_cell_below (below_alloc (Below.refl _ _) _) hHeld.1, pw_cell_below (below_alloc (Below.refl _ _) _) hHeld.2.1, pw_cell_below (below_alloc (Below.refl _ _) _) hHeld.2.2.1, pw_cell_below (below_alloc (Below.refl _ _) _) hHeld.2.2.2.1, pw_cell_below (below_alloc (Below.refl _ _) _) hHeld.2.2.2.2⟩
                  clear hK K
                  refine last_ (i := 15) (N := some 68) #[true, true, true, true, true, true, true, true, true, true, true, true, true, true, true, true, false, false, false, false, false] rfl rfl (by kernel_rfl) (by decide) (fun K hK => ?_)
                  refine Kd.R_append_step k39 (w0 := W1) W1.heap.size (by rfl) (.tmp 56) (.tmp 67) 37 39 (.agg #[(.int .i64 0), (.string ⟨#[]⟩), (.int .i64 0), (.int .i64 0), (.slice none 0 0)]) 64 rfl Tryd.underlying37 info39 rfl (by decide) (by decide) _ (topN st).f4 zN [.int .i64 0, .string ⟨#[]⟩, .int .i64 0, .int .i64 0, .slice none 0 0] okw (fun _ => False) rfl rfl (zN_M _ _ _) (fun _ hk => hk.elim) HNEW.out HR4.out HBW.out HSZ.out HLEN.out ?_
                  intro v1 w1 hR1 hB1 hg1 hat
                  obtain ⟨h1, c1, he, hb1, hl1, _⟩ := Kd.R_form hR1 (by simp)
                  simp only [List.length_append, List.length_cons, List.length_nil, Nat.zero_add] at he
                  subst he
                  have hH1 := Kd.H_grown HHO.out hg1 (fun k hk => HR4.out.1 k hk)
                  obtain ⟨⟨curg, hcg, hfg⟩, hng⟩ := hole_row hH1
                  obtain ⟨curh, hch, hfh⟩ := row_at hR1
                  have hne : h1 ≠ g := fun he => hng (he ▸ hR1.1 h1 (by simp [Value.ownBlock]))
                  have HR1 := Aside0.mk hR1
                  have HH1 := Aside0.mk hH1
                  have HB1 := Aside0.mk hB1
                  have HG := Aside0.mk (And.intro hcg hfg)
                  have HC := Aside0.mk (And.intro hch hfh)
                  have HNEG := Aside0.mk hne
                  clear hR1 hH1 hB1 hg1 hat hcg hfg hch hfh hne hng
                  refine hK.out _ _ ?_
                  clear hK K
                  refine norm_ (a' := ?_) ?_ ?_
                  rotate_left
                  · show Act.put _ (some 68) _ = _
                    simp only [Act.put, List.setIfInBounds_toArray, List.set_cons_zero, List.set_cons_succ]
                    rfl
                  have hlt1 : ((topN st).f4.length : Int) < ((topN st).f4.length : Int) + 1 := Int.lt_succ _
                  refine pure_ (i := 16) (N := some 69) (v := ?_) (a' := ?_) #[true, true, true, true, true, true, true, true, true, true, true, true, true, true, true, true, true, false, false, false, false] rfl rfl (by kernel_rfl) (fun _ _ _ h => h) (Or.inl ⟨by rfl, ?_⟩) ?_ ?_
                  rotate_left
                  · intro w'
                    go_simp
                    try with_reducible rfl
                  rotate_left
                  · simp only [Act.put, List.setIfInBounds_toArray, List.set_cons_zero, List.set_cons_succ]
                    rfl
                  refine pure_ (i := 18) (N := some 70) (v := ?_) (a' := ?_) #[true, true, true, true, true, true, true, true, true, true, true, true, true, true, true, true, true, false, true, false, false] rfl rfl (by kernel_rfl) (fun _ _ _ h => h) (Or.inl ⟨by rfl, ?_⟩) ?_ ?_
                  rotate_left
                  · intro w'
                    go_simp
                    try with_reducible rfl
                  rotate_left
                  · simp only [Act.put, List.setIfInBounds_toArray, List.set_cons_zero, List.set_cons_succ]
                    rfl
                  refine pure_ (i := 19) (N := some 71) (v := ?_) (a' := ?_) #[true, true, true, true, true, true, true, true, true, true, true, true, true, true, true, true, true, false, true, true, false] rfl rfl (by kernel_rfl) (fun _ _ _ h => h) (Or.inl ⟨by rfl, ?_⟩) ?_ ?_
                  rotate_left
                  · intro w'
                    go_simp
                    try with_reducible rfl
                  rotate_left
                  · simp only [Act.put, List.setIfInBounds_toArray, List.set_cons_zero, List.set_cons_succ]
                    rfl
                  have HFIN : ∀ V, V = ((w1.setCells h1 ((topN st).f4.length * 5) [.int .i64 t.f0, .string t.f1, .int .i64 t.f2, .int .i64 t.f3, .slice none 0 0]).setCells g (m * 5 + 4) [.slice (some ⟨h1, 0, none⟩) ((topN st).f4.length + 1) c1]) → Aside0 (StS V W1.heap.size g cap (addTop st ⟨t.f0, t.f1, t.f2, t.f3, []⟩)) ∧ Aside0 (Below W1.heap.size W1 V) := by
                    rintro V rfl
                    have hS := top_put (m := m) HH1.out HR1.out (k39_mkM w1 W1.heap.size (fun _ => False) ⟨t.f0, t.f1, t.f2, t.f3, []⟩ (Kd.R_nil _ _ _ _ _)) rfl (fun _ hk => hk.elim) HM.out rfl
                    refine ⟨⟨?_⟩, ⟨cells_below (Kd.S_base HS.out g (by simp [Value.ownBlock])) _ _ (cells_below hb1 _ _ HB1.out)⟩⟩
                    show Kd.S k39 39 _ _ _ (.slice (some ⟨g, 0, none⟩) (addTop st ⟨t.f0, t.f1, t.f2, t.f3, []⟩).length cap) _
                    rw [addTop_len, HM.out]
                    exact hS
                  refine wpAnyLast_ready (rs := [17, 20]) (by kernel_rfl) (by decide) (AllReadyL.cons_last (i := 17) rfl (by decide) (fun K hK => ?_) (AllReadyL.cons_last (i := 20) rfl (by decide) (fun K hK => ?_) AllReadyL.nil))
                  · refine store_row (by rfl) rfl 39 (.tmp 69) (.tmp 65) rfl (g := h1) (seg := [.int .i64 t.f0, .string t.f1, .int .i64 t.f2, .int .i64 t.f3, .slice none 0 0]) rfl rfl rfl (by kernel_rfl) HC.out.1 (by have := HC.out.2; have h5 : ((topN st).f4.length + 1) * 5 ≤ curh.size := this; show (topN st).f4.length * 5 + 5 ≤ curh.size; omega) (by simp [Value.oneCell']) ?_
                    refine hK.out _ _ ?_
                    clear hK K
                    refine last_ (i := 20) (N := none) #[true, true, true, true, true, true, true, true, true, true, true, true, true, true, true, true, true, true, true, true, true] rfl rfl (by kernel_rfl) (by decide) (fun K hK => ?_)
                    refine store_row (by rfl) rfl 37 (.tmp 71) (.tmp 68) rfl (g := g) (seg := [.slice (some ⟨h1, 0, none⟩) ((topN st).f4.length + 1) c1]) rfl rfl rfl (by kernel_rfl) ((setCells_far _ _ g (Ne.symm HNEG.out)).trans HG.out.1) (by have := HG.out.2; have h5 : (m + 1) * 5 ≤ curg.size := this; show m * 5 + 4 + 1 ≤ curg.size; omega) (by simp [Value.oneCell']) ?_
                    refine hK.out _ _ ?_
                    clear hK K
                    refine done_ (by kernel_rfl) ?_
                    obtain ⟨hS9, hB9⟩ := HFIN _ (rfl)
                    clear HFIN
                    go_wp2
                    go_roundg (l.length - (i + 1))
                    case measure => have := HN.out; omega
                    case rel => exact ⟨i + 1, _, g, cap, by go_num, by rw [addTop_len, HM.out], HP2, hS9, hB9, ⟨by omega⟩, HO2⟩
                  · refine store_row (by rfl) rfl 37 (.tmp 71) (.tmp 68) rfl (g := g) (seg := [.slice (some ⟨h1, 0, none⟩) ((topN st).f4.length + 1) c1]) rfl rfl rfl (by kernel_rfl) HG.out.1 (by have := HG.out.2; have h5 : (m + 1) * 5 ≤ curg.size := this; show m * 5 + 4 + 1 ≤ curg.size; omega) (by simp [Value.oneCell']) ?_
                    refine hK.out _ _ ?_
                    clear hK K
                    refine last_ (i := 17) (N := none) #[true, true, true, true, true, true, true, true, true, true, true, true, true, true, true, true, true, true, true, true, true] rfl rfl (by kernel_rfl) (by decide) (fun K hK => ?_)
                    refine store_row (by rfl) rfl 39 (.tmp 69) (.tmp 65) rfl (g := h1) (seg := [.int .i64 t.f0, .string t.f1, .int .i64 t.f2, .int .i64 t.f3, .slice none 0 0]) rfl rfl rfl (by kernel_rfl) ((setCells_far _ _ h1 HNEG.out).trans HC.out.1) (by have := HC.out.2; have h5 : ((topN st).f4.length + 1) * 5 ≤ curh.size := this; show (topN st).f4.length * 5 + 5 ≤ curh.size; omega) (by simp [Value.oneCell']) ?_
                    refine hK.out _ _ ?_
                    clear hK K
                    refine done_ (by kernel_rfl) ?_
                    obtain ⟨hS9, hB9⟩ := HFIN _ ((setCells_setCell (p := ⟨g, m * 5 + 4, none⟩) HNEG.out _ _ _ _).symm)
                    clear HFIN
                    go_wp2
                    go_roundg (l.length - (i + 1))
                    case measure => have := HN.out; omega
                    case rel => exact ⟨i + 1, _, g, cap, by go_num, by rw [addTop_len, HM.out], HP2, hS9, hB9, ⟨by omega⟩, HO2⟩
    · have hR : Aside0 (R = .inl st) := ⟨by rw [← HP.out, List.drop_of_length_le (by omega)]; rfl⟩
      obtain ⟨A4, c4, htop⟩ := st_top HS.out HO.out.1
      clear HP
      by_cases h1 : 1 < st.length
      · have d1 : decide (1 < (st.length : Int)) = true := decide_eq_true (by omega)
        have d2 : decide (1 < st.length) = true := decide_eq_true h1
        have hV : Aside0 (parseEnd s.size (parseL l [zN]) = (zN, (s.size : Int), 4)) := ⟨by rw [HRE.out, hR.out, parseEnd, if_pos h1]⟩
        clear htop hR h1
        go_wp2
        rw [hV.out]
        have k1 := box_put5 HBX.out (.int .i64 0) (.string ⟨#[]⟩) (.int .i64 0) (.int .i64 0) (.slice none 0 0)
        have k2 := set5_below (g := w.heap.size) HW.out (Nat.le_refl _) (.int .i64 0) (.string ⟨#[]⟩) (.int .i64 0) (.int .i64 0) (.slice none 0 0)
        refine sexpParse_ret (r := (zN, (s.size : Int), 4)) (v4 := .slice none 0 0) ?_ ?_ ?_ k1 (Kd.R_nil _ _ _ _ _) k2
        · rfl
        · rfl
        · rfl
      · have hst : st.length = 1 := by have := HO.out.1; omega
        have d1 : decide (1 < (st.length : Int)) = false := decide_eq_false (by omega)
        have d2 : decide (1 < st.length) = false := decide_eq_false h1
        have d3 : 0 < st.length := HO.out.1
        have htN : topN st = st.getD 0 zN := by unfold topN; rw [hst]
        rw [hst] at htop
        simp only [Nat.sub_self, Nat.zero_mul, Nat.zero_add] at htop
        by_cases h2 : (topN st).f4.length = 0
        · have b1 : (((topN st).f4.length : Int) == 0) = true := beq_iff_eq.2 (by omega)
          have hV : Aside0 (parseEnd s.size (parseL l [zN]) = (zN, (s.size : Int), 4)) := ⟨by rw [HRE.out, hR.out, parseEnd, if_neg h1, if_pos (by rw [← htN]; exact h2)]⟩
          clear hR h1 h2 hst htN
          go_wp2
          rw [hV.out]
          have k1 := box_put5 HBX.out (.int .i64 0) (.string ⟨#[]⟩) (.int .i64 0) (.int .i64 0) (.slice none 0 0)
          have k2 := set5_below (g := w.heap.size) HW.out (Nat.le_refl _) (.int .i64 0) (.string ⟨#[]⟩) (.int .i64 0) (.int .i64 0) (.slice none 0 0)
          refine sexpParse_ret (r := (zN, (s.size : Int), 4)) (v4 := .slice none 0 0) ?_ ?_ ?_ k1 (Kd.R_nil _ _ _ _ _) k2
          · rfl
          · rfl
          · rfl
        · have b1 : (((topN st).f4.length : Int) == 0) = false := beq_eq_false_iff_ne.2 (by omega)
          have p2 : 0 < (topN st).f4.length := by omega
          have hV : Aside0 (parseEnd s.size (parseL l [zN]) = ((topN st).f4[0], (s.size : Int), 0)) := ⟨by rw [HRE.out, hR.out, parseEnd, if_neg h1, if_neg (by rw [← htN]; exact h2), ← htN, List.getD_eq_getElem?_getD, List.getElem?_eq_getElem p2, Option.getD_some]⟩
          obtain ⟨oki, cc, e1, e2, e3, e4, e5⟩ := Kd.S_lend HS.out zN 0 (by omega) (by omega)
          obtain ⟨v4, rfl, hR4⟩ := k39_openM e2
          have htop2 := e3 4 _ rfl
          rw [show st.getD (0 : Int).toNat zN = topN st from htN.symm] at hR4
          obtain ⟨g4, c4', rfl, _⟩ := Kd.R_form hR4 p2
          obtain ⟨dd, x1, x2, x3⟩ := Kd.R_getA hR4 zN 0 (by omega) (by omega)
          obtain ⟨v5, rfl, hR5⟩ := k39_openM x2
          obtain ⟨A5, c5, rfl⟩ := Kd.R_slice hR5
          have Y := fun j u h => (show wr.cell? ⟨g4, j, none⟩ = some u from by have := x3 j u h; rw [add_plain, Int.toNat_zero, Nat.zero_mul, Nat.zero_add] at this; exact this)
          have y0 := Y 0 _ rfl
          have y1 := Y 1 _ rfl
          have y2 := Y 2 _ rfl
          have y3 := Y 3 _ rfl
          have y4 := Y 4 _ rfl
          rw [show (0 : Int).toNat * k39.sz + 4 = 4 from rfl] at htop2
          have HR5 := Aside0.mk hR5
          clear hR h1 h2 hst htN htop e1 e2 e3 e4 e5 hR4 x1 x2 x3 hR5 Y
          have hgd : (topN st).f4.getD (0 : Int).toNat zN = (topN st).f4[0] := by rw [List.getD_eq_getElem?_getD, Int.toNat_zero, List.getElem?_eq_getElem p2, Option.getD_some]
          rw [hgd] at HR5 y0 y1 y2 y3 y4
          clear hgd
          have hWs : Aside0 (w.heap.size < W1.heap.size) := ⟨by have := HB.out.size; rw [World.size_alloc] at this; omega⟩
          go_wp2
          rw [hV.out]
          have k1 := box_put5 HBX.out (.int .i64 (topN st).f4[0].f0) (.string (topN st).f4[0].f1) (.int .i64 (topN st).f4[0].f2) (.int .i64 (topN st).f4[0].f3) (.slice A5 (topN st).f4[0].f4.length c5)
          have k2 := set5_below (g := w.heap.size) HW.out (Nat.le_refl _) (.int .i64 (topN st).f4[0].f0) (.string (topN st).f4[0].f1) (.int .i64 (topN st).f4[0].f2) (.int .i64 (topN st).f4[0].f3) (.slice A5 (topN st).f4[0].f4.length c5)
          have k3 := R_set5 HR5.out hWs.out (.int .i64 (topN st).f4[0].f0) (.string (topN st).f4[0].f1) (.int .i64 (topN st).f4[0].f2) (.int .i64 (topN st).f4[0].f3) (.slice A5 (topN st).f4[0].f4.length c5)
          refine sexpParse_ret (r := ((topN st).f4[0], (s.size : Int), 0)) (v4 := .slice A5 (topN st).f4[0].f4.length c5) ?_ ?_ ?_ k1 k3 k2
          · rfl
          · rfl
          · rfl
end Go.Proofs.YtngcojabofkbjaaDoor.P
namespace Go.Proofs.YtngcojabofkbjaaDoor.P
open Go.RowKit Go.Proofs.YtngcojabofkbjaaDoorW.PrintWords Go.Proofs.YtngcojabofkbjaaDoorW.PrintLast Go.Proofs.YtngcojabofkbjaaDoorW.PrintMore
set_option linter.unusedVariables false
set_option linter.unusedSimpArgs false
theorem allF_len (s : ByteArray) : (allF s).1.length ≤ 1000 := by
  unfold allF
  split
  · simp
  · rw [all_scan]
    cases h : scan 1000 0 (bl s) with
    | inr e => obtain ⟨p, e⟩ := e; simp [endL]
    | inl ts => have := scan_len _ _ _ _ _ (Nat.le_refl _) h; simp [endL]; omega
theorem allF_big (s : ByteArray) (h : 5000 < s.size) : (allF s).2.2 ≠ 0 := by
  unfold allF
  rw [if_pos (by omega)]
  decide
def sexp_Parse.f (a0 : ByteArray) : Option (Int × ByteArray × Int × Int × List (S39) × Int × Int) := some ((parseN a0).1.f0, (parseN a0).1.f1, (parseN a0).1.f2, (parseN a0).1.f3, (parseN a0).1.f4, (parseN a0).2.1, (parseN a0).2.2)
theorem sexp_Parse.calls (a0 : ByteArray) (r1 : Int) (r2 : ByteArray) (r3 : Int) (r4 : Int) (r5 : List (S39)) (r6 : Int) (r7 : Int) (w : World) (hG : GInv w) (h : sexp_Parse.f a0 = some (r1, r2, r3, r4, r5, r6, r7)) :
    Calls Tryd.prog 24 #[.string a0] w fun e w' => ∃ v4_ : Value, e = .returned (.tuple #[.agg #[.int .i64 r1, .string r2, .int .i64 r3, .int .i64 r4, v4_], .int .i64 r6, .int .i64 r7]) ∧ Kd.R k39 39 w' w.heap.size (fun _ => True) v4_ r5 ∧ Below w.heap.size w w' := by
  have hp : Calls Tryd.prog 24 #[.string a0] w (ParsePost w (parseN a0)) := by
    by_cases he : (allF a0).2.2 = 0
    · have hsz : a0.size ≤ 5000 := by
        by_cases hb : 5000 < a0.size
        · exact absurd he (allF_big a0 hb)
        · omega
      have e : parseN a0 = parseEnd a0.size (parseL (allF a0).1 [zN]) := by unfold parseN; rw [if_neg (by rw [he]; decide)]
      rw [e]
      refine sexpParse_ok a0 (allF a0).1 (allF a0).2.1 w hG ?_ (allF_len a0) (by omega)
      unfold token_All.f
      rw [← he]
    · have e : parseN a0 = (zN, (allF a0).2.1, (allF a0).2.2) := by unfold parseN; rw [if_pos he]
      rw [e]
      exact sexpParse_err a0 w hG he
  unfold sexp_Parse.f at h
  simp only [Option.some.injEq, Prod.mk.injEq] at h
  obtain ⟨rfl, rfl, rfl, rfl, rfl, rfl, rfl⟩ := h
  exact hp
end Go.Proofs.YtngcojabofkbjaaDoor.P
namespace Go.Proofs.YtngcojabofkbjaaDoor.P
open Go.RowKit Go.Proofs.YtngcojabofkbjaaDoorW.PrintWords Go.Proofs.YtngcojabofkbjaaDoorW.PrintLast Go.Proofs.YtngcojabofkbjaaDoorW.PrintMore
set_option linter.unusedVariables false
set_option linter.unusedSimpArgs false
def trufflelaw14_awake.f  : Option (Bool) := (sexp_Parse.f (⟨#[40, 101, 113, 32, 97, 32, 53, 41]⟩ : ByteArray)).bind fun bt324 => (if bt324.2.2.2.2.2.2 = 0 then (if bt324.2.2.2.2.2.1 = 8 then (if bt324.1 = 4 then (if (bt324.2.2.2.2.1.length : Int) = 3 then (if 2 < (bt324.2.2.2.2.1.length : Int) then (if ((rd_T39 bt324.2.2.2.2.1 2).f2) = 5 then ((sexp_May.f bt324.1 bt324.2.1 bt324.2.2.1 bt324.2.2.2.1 bt324.2.2.2.2.1).bind fun t335 => (if t335 = true then ((sexp_Print.f bt324.1 bt324.2.1 bt324.2.2.1 bt324.2.2.2.1 bt324.2.2.2.2.1).bind fun t336 => (some (t336.toList == ([40, 101, 113, 32, 97, 32, 53, 41] : List UInt8)))) else (some false))) else (some false)) else (none)) else (some false)) else (some false)) else (some false)) else (some false))
set_option maxHeartbeats 8000000 in
set_option maxRecDepth 100000 in
theorem trufflelaw14_awake.calls  (r : Bool) (w : World) (hG : GInv w) (h : trufflelaw14_awake.f  = some r) :
    Calls Tryd.prog 23 #[] w fun e w' => e = .returned (.bool r) ∧ Below w.heap.size w w' := by
  have hu39 := Tryd.underlying39
  have HB := Aside0.mk (Below.refl w.heap.size w)
  have H : ((sexp_Parse.f (⟨#[40, 101, 113, 32, 97, 32, 53, 41]⟩ : ByteArray)).bind fun bt324 => (if bt324.2.2.2.2.2.2 = 0 then (if bt324.2.2.2.2.2.1 = 8 then (if bt324.1 = 4 then (if (bt324.2.2.2.2.1.length : Int) = 3 then (if 2 < (bt324.2.2.2.2.1.length : Int) then (if ((rd_T39 bt324.2.2.2.2.1 2).f2) = 5 then ((sexp_May.f bt324.1 bt324.2.1 bt324.2.2.1 bt324.2.2.2.1 bt324.2.2.2.2.1).bind fun t335 => (if t335 = true then ((sexp_Print.f bt324.1 bt324.2.1 bt324.2.2.1 bt324.2.2.2.1 bt324.2.2.2.2.1).bind fun t336 => (some (t336.toList == ([40, 101, 113, 32, 97, 32, 53, 41] : List UInt8)))) else (some false))) else (some false)) else (none)) else (some false)) else (some false)) else (some false)) else (some false))) = some r := h
  clear h
  replace H := Option.bind_eq_some_iff.mp H
  obtain ⟨⟨t324, t325, t326, t327, t328, t331, t332⟩, A10, H⟩ := H
  replace H : (if t332 = 0 then (if t331 = 8 then (if t324 = 4 then (if (t328.length : Int) = 3 then (if 2 < (t328.length : Int) then (if ((rd_T39 t328 2).f2) = 5 then ((sexp_May.f t324 t325 t326 t327 t328).bind fun t335 => (if t335 = true then ((sexp_Print.f t324 t325 t326 t327 t328).bind fun t336 => (some (t336.toList == ([40, 101, 113, 32, 97, 32, 53, 41] : List UInt8)))) else (some false))) else (some false)) else (none)) else (some false)) else (some false)) else (some false)) else (some false)) = some r := H
  have A1 := Aside0.mk A10
  clear A10
  by_cases c2 : t332 = 0
  · rw [if_pos c2] at H
    have c2b0 : (t332 == 0) = true := beq_iff_eq.mpr c2
    have c2b1 : (t332 != 0) = false := bne_eq_false_iff_eq.mpr c2
    clear c2
    by_cases c3 : t331 = 8
    · rw [if_pos c3] at H
      have c3b0 : (t331 == 8) = true := beq_iff_eq.mpr c3
      have c3b1 : (t331 != 8) = false := bne_eq_false_iff_eq.mpr c3
      clear c3
      by_cases c4 : t324 = 4
      · rw [if_pos c4] at H
        have c4b0 : (t324 == 4) = true := beq_iff_eq.mpr c4
        have c4b1 : (t324 != 4) = false := bne_eq_false_iff_eq.mpr c4
        clear c4
        by_cases c5 : (t328.length : Int) = 3
        · rw [if_pos c5] at H
          have c5b0 : ((t328.length : Int) == 3) = true := beq_iff_eq.mpr c5
          have c5b1 : ((t328.length : Int) != 3) = false := bne_eq_false_iff_eq.mpr c5
          clear c5
          by_cases c6 : 2 < (t328.length : Int)
          · rw [if_pos c6] at H
            have c6b0 : decide (2 < (t328.length : Int)) = true := decide_eq_true c6
            have c6b1 : decide (2 < t328.length) = true := decide_eq_true (by omega)
            clear c6
            by_cases c7 : ((rd_T39 t328 2).f2) = 5
            · rw [if_pos c7] at H
              have c7b0 : (((rd_T39 t328 2).f2) == 5) = true := beq_iff_eq.mpr c7
              have c7b1 : (((rd_T39 t328 2).f2) != 5) = false := bne_eq_false_iff_eq.mpr c7
              clear c7
              replace H := Option.bind_eq_some_iff.mp H
              obtain ⟨t335, A80, H⟩ := H
              replace H : (if t335 = true then ((sexp_Print.f t324 t325 t326 t327 t328).bind fun t336 => (some (t336.toList == ([40, 101, 113, 32, 97, 32, 53, 41] : List UInt8)))) else (some false)) = some r := H
              have A8 := Aside0.mk A80
              clear A80
              by_cases c9 : t335 = true
              · subst c9
                have H1 : ((sexp_Print.f t324 t325 t326 t327 t328).bind fun t336 => (some (t336.toList == ([40, 101, 113, 32, 97, 32, 53, 41] : List UInt8)))) = some r := by first | (rw [if_pos rfl] at H; exact H) | rfl
                clear H
                have H := H1
                clear H1
                replace H := Option.bind_eq_some_iff.mp H
                obtain ⟨t336, A100, H⟩ := H
                replace H : (some (t336.toList == ([40, 101, 113, 32, 97, 32, 53, 41] : List UInt8))) = some r := H
                have A10 := Aside0.mk A100
                clear A100
                obtain rfl := Option.some.inj H
                go_enter Tryd.func23, Tryd.ntmps23
                go_wp2_with (first | ((with_reducible refine gate_callee (f := 24) rfl ?_); refine goesL_ (some 5) rfl rfl Tryd.func24 (by kernel_rfl) rfl #[.string (⟨#[40, 101, 113, 32, 97, 32, 53, 41]⟩ : ByteArray)] rfl (by (try simp only [List.map_toArray, List.map_cons, List.map_nil]); first | done | rfl | (simp only [List.length_drop, List.length_take]; rfl)) ?_; (with_reducible refine (sexp_Parse.calls (⟨#[40, 101, 113, 32, 97, 32, 53, 41]⟩ : ByteArray) t324 t325 t326 t327 t328 t331 t332 _ ?side1 A1.out).mono ?_); (case side1 => exact hG.below (by repeat (first | (with_reducible first | exact HB.out | apply below_alloc | apply pw_below_drewN | apply below_drew1) | exact HB.out))); rintro e w11 ⟨v329, rfl, ho0, hb⟩; refine ⟨_, rfl, ?_⟩; have n0_ := Aside0.mk (Kd.R_lower ho0 (below_size (by repeat (first | (with_reducible first | exact HB.out | apply below_alloc | apply pw_below_drewN | apply below_drew1) | exact HB.out)))); have n1_ := Aside0.mk (below_step (by repeat (first | (with_reducible first | exact HB.out | apply below_alloc | apply pw_below_drewN | apply below_drew1) | exact HB.out)) hb); clear HB; have HO330 := n0_; have HB := n1_; clear n0_ n1_; (try clear hb); (try clear hb2); (try clear hk); (try clear hi); (try clear ho0)) | ((with_reducible refine gate_dst (N := 1) rfl ?_); (try (refine gate_guard (by rfl) ?_; dsimp only)); refine box_event ?hg (N := 1) ?hd (cs := #[.int .i64 0, .string (⟨#[]⟩ : ByteArray), .int .i64 0, .int .i64 0, .slice none 0 0]) (t := 39) ?hr ?_; (case hd => rfl); (case hg => rfl); (case hr => first | (go_simp; done) | (go_simp; rfl)); intro gb333 hg w12 hbox hb; have n0_ := Aside0.mk (Kd.R_below (Kd.R_elderB (by (with_reducible repeat (first | apply Kd.R_alloc | apply Kd.R_drewN | apply Kd.R_drew)); exact HO330.out) gb333 (Nat.le_of_eq hg.symm)) hb); have n1_ := Aside0.mk (below_step (by repeat (first | (with_reducible first | exact HB.out | apply below_alloc | apply pw_below_drewN | apply below_drew1) | exact HB.out)) hb); have n2_ := Aside0.mk (hbox); have n3_ := Aside0.mk ((by rw [hg]; exact (below_size (by repeat (first | (with_reducible first | exact HB.out | apply below_alloc | apply pw_below_drewN | apply below_drew1) | exact HB.out))) : w.heap.size ≤ gb333)); have n4_ := Aside0.mk ((by rw [hg]; exact (below_size (by repeat (first | (with_reducible first | exact HB.out | apply below_alloc | apply pw_below_drewN | apply below_drew1) | exact HB.out))) : w.heap.size ≤ gb333)); clear HO330; clear HB; have HO330 := n0_; have HB := n1_; have BK333 := n2_; have GW333 := n3_; have GE333 := n4_; clear n0_ n1_ n2_ n3_ n4_; clear hb hbox hg; have hcz13_0 : w12.cell? ⟨gb333, 0, none⟩ = some (.int .i64 0) := (blk_cell BK333.out 0).trans rfl; have hcz13_1 : w12.cell? ⟨gb333, 1, none⟩ = some (.string (⟨#[]⟩ : ByteArray)) := (blk_cell BK333.out 1).trans rfl; have hcz13_2 : w12.cell? ⟨gb333, 2, none⟩ = some (.int .i64 0) := (blk_cell BK333.out 2).trans rfl; have hcz13_3 : w12.cell? ⟨gb333, 3, none⟩ = some (.int .i64 0) := (blk_cell BK333.out 3).trans rfl; have hcz13_4 : w12.cell? ⟨gb333, 4, none⟩ = some (.slice none 0 0) := (blk_cell BK333.out 4).trans rfl; have hfz13_0 := blk_frozen BK333.out 0; have hfz13_1 := blk_frozen BK333.out 1; have hfz13_2 := blk_frozen BK333.out 2; have hfz13_3 := blk_frozen BK333.out 3; have hfz13_4 := blk_frozen BK333.out 4; obtain ⟨Ao14, co14, eo14⟩ := Kd.R_slice HO330.out; subst eo14) | ((with_reducible refine gate_store (t := 39) (p := 1) rfl ?_); refine store_event (t := 39) (p := 1) (v := ?vo_w15) (w1 := (((((w12.setCell ⟨gb333, 0, none⟩ (.int .i64 t324)).setCell ⟨gb333, 1, none⟩ (.string t325)).setCell ⟨gb333, 2, none⟩ (.int .i64 t326)).setCell ⟨gb333, 3, none⟩ (.int .i64 t327)).setCell ⟨gb333, 4, none⟩ (.slice Ao14 t328.length co14))) ?hg ?ho ?hn ?hr ?_; (case ho => rfl); (case hg => rfl); (case hn => rfl); (case hr => first | (go_simp; done) | (go_simp; rfl)); intro w15 hw; have n0_ : Aside0 (Kd.R k39 39 w15 w.heap.size (fun k_ => k_ ≠ gb333) (.slice Ao14 t328.length co14) t328) := ⟨(by rw [hw]; exact (by (with_reducible repeat (first | apply Kd.R_alloc | apply Kd.R_drewN | apply Kd.R_drew)); exact Kd.R_mono (Kd.R_far (p := ⟨gb333, 4, none⟩) (Kd.R_far (p := ⟨gb333, 3, none⟩) (Kd.R_far (p := ⟨gb333, 2, none⟩) (Kd.R_far (p := ⟨gb333, 1, none⟩) (Kd.R_far (p := ⟨gb333, 0, none⟩) (Kd.R_mono HO330.out (fun k_ hk => (⟨hk, hk.2⟩ : _ ∧ k_ ≠ gb333))) (fun _ hk => hk.2) (.int .i64 t324)) (fun _ hk => hk.2) (.string t325)) (fun _ hk => hk.2) (.int .i64 t326)) (fun _ hk => hk.2) (.int .i64 t327)) (fun _ hk => hk.2) (.slice Ao14 t328.length co14)) (fun _ hk => hk.1.2)))⟩; have n1_ : Aside0 (w15.heap[gb333]? = some (.cells #[.int .i64 t324, .string t325, .int .i64 t326, .int .i64 t327, .slice Ao14 t328.length co14] 39 (0, 0))) := ⟨(by rw [hw]; exact (by (with_reducible repeat (first | refine blk_drewN ?_ _ | refine blk_drew ?_ | refine blk_alloc ?_ _)); refine blk_put (cs := #[.int .i64 t324, .string t325, .int .i64 t326, .int .i64 t327, .slice none 0 0]) ?_ 4 _ rfl; (with_reducible repeat (first | refine blk_drewN ?_ _ | refine blk_drew ?_ | refine blk_alloc ?_ _)); refine blk_put (cs := #[.int .i64 t324, .string t325, .int .i64 t326, .int .i64 0, .slice none 0 0]) ?_ 3 _ rfl; (with_reducible repeat (first | refine blk_drewN ?_ _ | refine blk_drew ?_ | refine blk_alloc ?_ _)); refine blk_put (cs := #[.int .i64 t324, .string t325, .int .i64 0, .int .i64 0, .slice none 0 0]) ?_ 2 _ rfl; (with_reducible repeat (first | refine blk_drewN ?_ _ | refine blk_drew ?_ | refine blk_alloc ?_ _)); refine blk_put (cs := #[.int .i64 t324, .string (⟨#[]⟩ : ByteArray), .int .i64 0, .int .i64 0, .slice none 0 0]) ?_ 1 _ rfl; (with_reducible repeat (first | refine blk_drewN ?_ _ | refine blk_drew ?_ | refine blk_alloc ?_ _)); refine blk_put (cs := #[.int .i64 0, .string (⟨#[]⟩ : ByteArray), .int .i64 0, .int .i64 0, .slice none 0 0]) ?_ 0 _ rfl; (with_reducible repeat (first | refine blk_drewN ?_ _ | refine blk_drew ?_ | refine blk_alloc ?_ _)); exact BK333.out))⟩; have n2_ : Aside0 (Below w.heap.size w w15) := ⟨(by rw [hw]; exact (by repeat (first | (with_reducible first | exact HB.out | apply below_alloc | apply pw_below_drewN | apply below_drew1 | refine below_set ?_ GE333.out) | exact HB.out)))⟩; clear hw; clear HO330; clear BK333; clear HB; have HO330 := n0_; have BK333 := n1_; have HB := n2_; clear n0_ n1_ n2_; have hcz16_0 : w15.cell? ⟨gb333, 0, none⟩ = some (.int .i64 t324) := (blk_cell BK333.out 0).trans rfl; have hcz16_1 : w15.cell? ⟨gb333, 1, none⟩ = some (.string t325) := (blk_cell BK333.out 1).trans rfl; have hcz16_2 : w15.cell? ⟨gb333, 2, none⟩ = some (.int .i64 t326) := (blk_cell BK333.out 2).trans rfl; have hcz16_3 : w15.cell? ⟨gb333, 3, none⟩ = some (.int .i64 t327) := (blk_cell BK333.out 3).trans rfl; have hcz16_4 : w15.cell? ⟨gb333, 4, none⟩ = some (.slice Ao14 t328.length co14) := (blk_cell BK333.out 4).trans rfl; have hfz16_0 := blk_frozen BK333.out 0; have hfz16_1 := blk_frozen BK333.out 1; have hfz16_2 := blk_frozen BK333.out 2; have hfz16_3 := blk_frozen BK333.out 3; have hfz16_4 := blk_frozen BK333.out 4; have p334 : 0 ≤ (2 : Int) := (by omega); have q334 : 2 < (t328.length : Int) := of_decide_eq_true (by first | (with_reducible assumption) | assumption); obtain ⟨ad334, A334_4, c334_4, e334, hx334_0, hx334_1, hx334_2, hx334_3, hx334_4, hl334_4, hi334_4⟩ := at_T39 (Kd.R_reads' HO330.out).2.2 2 p334 q334; cases e334; obtain ⟨ce334, hce334, hMe334, hcc334⟩ := Kd.R_get HO330.out z39 2 p334 (by first | exact q334 | exact of_decide_eq_true (by first | (with_reducible assumption) | assumption) | (have e_ := (Kd.R_reads' HO330.out).1; omega)); obtain ⟨ve334_4, rfl, ge334_4⟩ := k39_openM hMe334; have hv334_4 := hcc334 4 _ rfl; rw [add_field _ _ 4 (by omega)] at hv334_4; replace hv334_4 := Option.some.inj (hv334_4.symm.trans hx334_4); rw [hv334_4] at ge334_4; have HL334_4 := Aside0.mk (show Kd.R k39 39 _ _ _ _ ((rd_T39 t328 2).f4) from ge334_4); clear hv334_4 ge334_4; clear hcc334 hce334; (try simp only [show (2 : Int).toNat = 2 from rfl, Nat.reduceMul, Nat.reduceEqDiff, Go.Addr.add, ↓reduceIte] at hx334_0); (try simp only [show (2 : Int).toNat = 2 from rfl, Nat.reduceMul, Nat.reduceEqDiff, Go.Addr.add, ↓reduceIte] at hx334_1); (try simp only [show (2 : Int).toNat = 2 from rfl, Nat.reduceMul, Nat.reduceEqDiff, Go.Addr.add, ↓reduceIte] at hx334_2); (try simp only [show (2 : Int).toNat = 2 from rfl, Nat.reduceMul, Nat.reduceEqDiff, Go.Addr.add, ↓reduceIte] at hx334_3); (try simp only [show (2 : Int).toNat = 2 from rfl, Nat.reduceMul, Nat.reduceEqDiff, Go.Addr.add, ↓reduceIte] at hx334_4); have qi334 : (2 < t328.length) = True := eq_true (by omega); (try rw [show ((2 : Int)).toNat = 2 from rfl] at hx334_0); (try rw [show 2 * 5 = 10 from rfl] at hx334_0); (try rw [show ((2 : Int)).toNat = 2 from rfl] at hx334_1); (try rw [show 2 * 5 = 10 from rfl] at hx334_1); (try rw [show ((2 : Int)).toNat = 2 from rfl] at hx334_2); (try rw [show 2 * 5 = 10 from rfl] at hx334_2); (try rw [show ((2 : Int)).toNat = 2 from rfl] at hx334_3); (try rw [show 2 * 5 = 10 from rfl] at hx334_3); (try rw [show ((2 : Int)).toNat = 2 from rfl] at hx334_4); (try rw [show 2 * 5 = 10 from rfl] at hx334_4); have HR334_4 := Aside0.mk hi334_4; have HC334_4 := Aside0.mk hl334_4; clear hi334_4 hl334_4; replace p334 := eq_true p334; replace q334 := eq_true q334) | (go_at_call 25; (with_reducible refine (sexp_May.calls t324 t325 t326 t327 _ _ t328 true _ ?side1 ?side2 ?side3 A8.out).mono ?_); (case side1 => exact hG.below (by repeat (first | (with_reducible first | exact HB.out | apply below_alloc | apply pw_below_drewN | apply below_drew1 | refine below_set ?_ GE333.out) | exact HB.out))); (case side2 => repeat (first | exact (Kd.R_reads' HO330.out).2.2 | (with_reducible refine Kd.C_alloc ?_ _) | (with_reducible refine Kd.C_drewN ?_ _) | (with_reducible refine Kd.C_drew ?_))); (case side3 => exact (Kd.R_reads' HO330.out).2.1); rintro e w17 ⟨rfl, hb⟩; have n0_ := Aside0.mk (Kd.R_below (by (with_reducible repeat (first | apply Kd.R_alloc | apply Kd.R_drewN | apply Kd.R_drew)); exact HO330.out) hb); have n1_ := Aside0.mk (Kd.R_below (by (with_reducible repeat (first | apply Kd.R_alloc | apply Kd.R_drewN | apply Kd.R_drew)); exact HL334_4.out) hb); have n2_ := Aside0.mk (blk_below (g := gb333) (o := .cells #[.int .i64 t324, .string t325, .int .i64 t326, .int .i64 t327, .slice (some ad334) t328.length co14] 39 (0, 0)) (by (with_reducible repeat (first | refine blk_drewN ?_ _ | refine blk_drew ?_ | refine blk_alloc ?_ _)); exact BK333.out) hb); have n3_ := Aside0.mk (Kd.C_below (by repeat (first | (with_reducible exact HR334_4.out) | (with_reducible refine Kd.C_alloc ?_ _) | (with_reducible refine Kd.C_drewN ?_ _) | (with_reducible refine Kd.C_drew ?_) | exact HR334_4.out)) hb); have n4_ := Aside0.mk (below_step (by repeat (first | (with_reducible first | exact HB.out | apply below_alloc | apply pw_below_drewN | apply below_drew1 | refine below_set ?_ GE333.out) | exact HB.out)) hb); clear HO330; clear HL334_4; clear BK333; clear HR334_4; clear HB; have HO330 := n0_; have HL334_4 := n1_; have BK333 := n2_; have HR334_4 := n3_; have HB := n4_; clear n0_ n1_ n2_ n3_ n4_; (try clear hb); (try clear hb2); (try clear hk); (try clear hi); have hcz18_0 : w17.cell? ⟨gb333, 0, none⟩ = some (.int .i64 t324) := (blk_cell BK333.out 0).trans rfl; have hcz18_1 : w17.cell? ⟨gb333, 1, none⟩ = some (.string t325) := (blk_cell BK333.out 1).trans rfl; have hcz18_2 : w17.cell? ⟨gb333, 2, none⟩ = some (.int .i64 t326) := (blk_cell BK333.out 2).trans rfl; have hcz18_3 : w17.cell? ⟨gb333, 3, none⟩ = some (.int .i64 t327) := (blk_cell BK333.out 3).trans rfl; have hcz18_4 : w17.cell? ⟨gb333, 4, none⟩ = some (.slice (some ad334) t328.length co14) := (blk_cell BK333.out 4).trans rfl; have hfz18_0 := blk_frozen BK333.out 0; have hfz18_1 := blk_frozen BK333.out 1; have hfz18_2 := blk_frozen BK333.out 2; have hfz18_3 := blk_frozen BK333.out 3; have hfz18_4 := blk_frozen BK333.out 4) | (go_at_call 30; (with_reducible refine (sexp_Print.calls t324 t325 t326 t327 _ _ t328 t336 _ ?side1 ?side2 ?side3 A10.out).mono ?_); (case side1 => exact hG.below (by repeat (first | (with_reducible first | exact HB.out | apply below_alloc | apply pw_below_drewN | apply below_drew1 | refine below_set ?_ GE333.out) | exact HB.out))); (case side2 => repeat (first | exact (Kd.R_reads' HO330.out).2.2 | (with_reducible refine Kd.C_alloc ?_ _) | (with_reducible refine Kd.C_drewN ?_ _) | (with_reducible refine Kd.C_drew ?_))); (case side3 => exact (Kd.R_reads' HO330.out).2.1); rintro e w19 ⟨rfl, hb⟩; have n0_ := Aside0.mk (Kd.R_below (by (with_reducible repeat (first | apply Kd.R_alloc | apply Kd.R_drewN | apply Kd.R_drew)); exact HO330.out) hb); have n1_ := Aside0.mk (Kd.R_below (by (with_reducible repeat (first | apply Kd.R_alloc | apply Kd.R_drewN | apply Kd.R_drew)); exact HL334_4.out) hb); have n2_ := Aside0.mk (blk_below (g := gb333) (o := .cells #[.int .i64 t324, .string t325, .int .i64 t326, .int .i64 t327, .slice (some ad334) t328.length co14] 39 (0, 0)) (by (with_reducible repeat (first | refine blk_drewN ?_ _ | refine blk_drew ?_ | refine blk_alloc ?_ _)); exact BK333.out) hb); have n3_ := Aside0.mk (Kd.C_below (by repeat (first | (with_reducible exact HR334_4.out) | (with_reducible refine Kd.C_alloc ?_ _) | (with_reducible refine Kd.C_drewN ?_ _) | (with_reducible refine Kd.C_drew ?_) | exact HR334_4.out)) hb); have n4_ := Aside0.mk (below_step (by repeat (first | (with_reducible first | exact HB.out | apply below_alloc | apply pw_below_drewN | apply below_drew1 | refine below_set ?_ GE333.out) | exact HB.out)) hb); clear HO330; clear HL334_4; clear BK333; clear HR334_4; clear HB; have HO330 := n0_; have HL334_4 := n1_; have BK333 := n2_; have HR334_4 := n3_; have HB := n4_; clear n0_ n1_ n2_ n3_ n4_; (try clear hb); (try clear hb2); (try clear hk); (try clear hi)))
                go_ret
                exact ⟨by first | rfl | (simp [] <;> rfl) | (simp [*] <;> rfl), by repeat (first | (with_reducible first | exact HB.out | apply below_alloc | apply pw_below_drewN | apply below_drew1 | refine below_set ?_ GE333.out) | exact HB.out)⟩
              · replace c9 := Bool.eq_false_iff.mpr c9
                subst c9
                have H1 : (some false) = some r := by first | (rw [if_neg (show ¬ (false = true) by decide)] at H; exact H) | rfl
                clear H
                have H := H1
                clear H1
                obtain rfl := Option.some.inj H
                go_enter Tryd.func23, Tryd.ntmps23
                go_wp2_with (first | ((with_reducible refine gate_callee (f := 24) rfl ?_); refine goesL_ (some 5) rfl rfl Tryd.func24 (by kernel_rfl) rfl #[.string (⟨#[40, 101, 113, 32, 97, 32, 53, 41]⟩ : ByteArray)] rfl (by (try simp only [List.map_toArray, List.map_cons, List.map_nil]); first | done | rfl | (simp only [List.length_drop, List.length_take]; rfl)) ?_; (with_reducible refine (sexp_Parse.calls (⟨#[40, 101, 113, 32, 97, 32, 53, 41]⟩ : ByteArray) t324 t325 t326 t327 t328 t331 t332 _ ?side1 A1.out).mono ?_); (case side1 => exact hG.below (by repeat (first | (with_reducible first | exact HB.out | apply below_alloc | apply pw_below_drewN | apply below_drew1) | exact HB.out))); rintro e w20 ⟨v329, rfl, ho0, hb⟩; refine ⟨_, rfl, ?_⟩; have n0_ := Aside0.mk (Kd.R_lower ho0 (below_size (by repeat (first | (with_reducible first | exact HB.out | apply below_alloc | apply pw_below_drewN | apply below_drew1) | exact HB.out)))); have n1_ := Aside0.mk (below_step (by repeat (first | (with_reducible first | exact HB.out | apply below_alloc | apply pw_below_drewN | apply below_drew1) | exact HB.out)) hb); clear HB; have HO330 := n0_; have HB := n1_; clear n0_ n1_; (try clear hb); (try clear hb2); (try clear hk); (try clear hi); (try clear ho0)) | ((with_reducible refine gate_dst (N := 1) rfl ?_); (try (refine gate_guard (by rfl) ?_; dsimp only)); refine box_event ?hg (N := 1) ?hd (cs := #[.int .i64 0, .string (⟨#[]⟩ : ByteArray), .int .i64 0, .int .i64 0, .slice none 0 0]) (t := 39) ?hr ?_; (case hd => rfl); (case hg => rfl); (case hr => first | (go_simp; done) | (go_simp; rfl)); intro gb333 hg w21 hbox hb; have n0_ := Aside0.mk (Kd.R_below (Kd.R_elderB (by (with_reducible repeat (first | apply Kd.R_alloc | apply Kd.R_drewN | apply Kd.R_drew)); exact HO330.out) gb333 (Nat.le_of_eq hg.symm)) hb); have n1_ := Aside0.mk (below_step (by repeat (first | (with_reducible first | exact HB.out | apply below_alloc | apply pw_below_drewN | apply below_drew1) | exact HB.out)) hb); have n2_ := Aside0.mk (hbox); have n3_ := Aside0.mk ((by rw [hg]; exact (below_size (by repeat (first | (with_reducible first | exact HB.out | apply below_alloc | apply pw_below_drewN | apply below_drew1) | exact HB.out))) : w.heap.size ≤ gb333)); have n4_ := Aside0.mk ((by rw [hg]; exact (below_size (by repeat (first | (with_reducible first | exact HB.out | apply below_alloc | apply pw_below_drewN | apply below_drew1) | exact HB.out))) : w.heap.size ≤ gb333)); clear HO330; clear HB; have HO330 := n0_; have HB := n1_; have BK333 := n2_; have GW333 := n3_; have GE333 := n4_; clear n0_ n1_ n2_ n3_ n4_; clear hb hbox hg; have hcz22_0 : w21.cell? ⟨gb333, 0, none⟩ = some (.int .i64 0) := (blk_cell BK333.out 0).trans rfl; have hcz22_1 : w21.cell? ⟨gb333, 1, none⟩ = some (.string (⟨#[]⟩ : ByteArray)) := (blk_cell BK333.out 1).trans rfl; have hcz22_2 : w21.cell? ⟨gb333, 2, none⟩ = some (.int .i64 0) := (blk_cell BK333.out 2).trans rfl; have hcz22_3 : w21.cell? ⟨gb333, 3, none⟩ = some (.int .i64 0) := (blk_cell BK333.out 3).trans rfl; have hcz22_4 : w21.cell? ⟨gb333, 4, none⟩ = some (.slice none 0 0) := (blk_cell BK333.out 4).trans rfl; have hfz22_0 := blk_frozen BK333.out 0; have hfz22_1 := blk_frozen BK333.out 1; have hfz22_2 := blk_frozen BK333.out 2; have hfz22_3 := blk_frozen BK333.out 3; have hfz22_4 := blk_frozen BK333.out 4; obtain ⟨Ao23, co23, eo23⟩ := Kd.R_slice HO330.out; subst eo23) | ((with_reducible refine gate_store (t := 39) (p := 1) rfl ?_); refine store_event (t := 39) (p := 1) (v := ?vo_w24) (w1 := (((((w21.setCell ⟨gb333, 0, none⟩ (.int .i64 t324)).setCell ⟨gb333, 1, none⟩ (.string t325)).setCell ⟨gb333, 2, none⟩ (.int .i64 t326)).setCell ⟨gb333, 3, none⟩ (.int .i64 t327)).setCell ⟨gb333, 4, none⟩ (.slice Ao23 t328.length co23))) ?hg ?ho ?hn ?hr ?_; (case ho => rfl); (case hg => rfl); (case hn => rfl); (case hr => first | (go_simp; done) | (go_simp; rfl)); intro w24 hw; have n0_ : Aside0 (Kd.R k39 39 w24 w.heap.size (fun k_ => k_ ≠ gb333) (.slice Ao23 t328.length co23) t328) := ⟨(by rw [hw]; exact (by (with_reducible repeat (first | apply Kd.R_alloc | apply Kd.R_drewN | apply Kd.R_drew)); exact Kd.R_mono (Kd.R_far (p := ⟨gb333, 4, none⟩) (Kd.R_far (p := ⟨gb333, 3, none⟩) (Kd.R_far (p := ⟨gb333, 2, none⟩) (Kd.R_far (p := ⟨gb333, 1, none⟩) (Kd.R_far (p := ⟨gb333, 0, none⟩) (Kd.R_mono HO330.out (fun k_ hk => (⟨hk, hk.2⟩ : _ ∧ k_ ≠ gb333))) (fun _ hk => hk.2) (.int .i64 t324)) (fun _ hk => hk.2) (.string t325)) (fun _ hk => hk.2) (.int .i64 t326)) (fun _ hk => hk.2) (.int .i64 t327)) (fun _ hk => hk.2) (.slice Ao23 t328.length co23)) (fun _ hk => hk.1.2)))⟩; have n1_ : Aside0 (w24.heap[gb333]? = some (.cells #[.int .i64 t324, .string t325, .int .i64 t326, .int .i64 t327, .slice Ao23 t328.length co23] 39 (0, 0))) := ⟨(by rw [hw]; exact (by (with_reducible repeat (first | refine blk_drewN ?_ _ | refine blk_drew ?_ | refine blk_alloc ?_ _)); refine blk_put (cs := #[.int .i64 t324, .string t325, .int .i64 t326, .int .i64 t327, .slice none 0 0]) ?_ 4 _ rfl; (with_reducible repeat (first | refine blk_drewN ?_ _ | refine blk_drew ?_ | refine blk_alloc ?_ _)); refine blk_put (cs := #[.int .i64 t324, .string t325, .int .i64 t326, .int .i64 0, .slice none 0 0]) ?_ 3 _ rfl; (with_reducible repeat (first | refine blk_drewN ?_ _ | refine blk_drew ?_ | refine blk_alloc ?_ _)); refine blk_put (cs := #[.int .i64 t324, .string t325, .int .i64 0, .int .i64 0, .slice none 0 0]) ?_ 2 _ rfl; (with_reducible repeat (first | refine blk_drewN ?_ _ | refine blk_drew ?_ | refine blk_alloc ?_ _)); refine blk_put (cs := #[.int .i64 t324, .string (⟨#[]⟩ : ByteArray), .int .i64 0, .int .i64 0, .slice none 0 0]) ?_ 1 _ rfl; (with_reducible repeat (first | refine blk_drewN ?_ _ | refine blk_drew ?_ | refine blk_alloc ?_ _)); refine blk_put (cs := #[.int .i64 0, .string (⟨#[]⟩ : ByteArray), .int .i64 0, .int .i64 0, .slice none 0 0]) ?_ 0 _ rfl; (with_reducible repeat (first | refine blk_drewN ?_ _ | refine blk_drew ?_ | refine blk_alloc ?_ _)); exact BK333.out))⟩; have n2_ : Aside0 (Below w.heap.size w w24) := ⟨(by rw [hw]; exact (by repeat (first | (with_reducible first | exact HB.out | apply below_alloc | apply pw_below_drewN | apply below_drew1 | refine below_set ?_ GE333.out) | exact HB.out)))⟩; clear hw; clear HO330; clear BK333; clear HB; have HO330 := n0_; have BK333 := n1_; have HB := n2_; clear n0_ n1_ n2_; have hcz25_0 : w24.cell? ⟨gb333, 0, none⟩ = some (.int .i64 t324) := (blk_cell BK333.out 0).trans rfl; have hcz25_1 : w24.cell? ⟨gb333, 1, none⟩ = some (.string t325) := (blk_cell BK333.out 1).trans rfl; have hcz25_2 : w24.cell? ⟨gb333, 2, none⟩ = some (.int .i64 t326) := (blk_cell BK333.out 2).trans rfl; have hcz25_3 : w24.cell? ⟨gb333, 3, none⟩ = some (.int .i64 t327) := (blk_cell BK333.out 3).trans rfl; have hcz25_4 : w24.cell? ⟨gb333, 4, none⟩ = some (.slice Ao23 t328.length co23) := (blk_cell BK333.out 4).trans rfl; have hfz25_0 := blk_frozen BK333.out 0; have hfz25_1 := blk_frozen BK333.out 1; have hfz25_2 := blk_frozen BK333.out 2; have hfz25_3 := blk_frozen BK333.out 3; have hfz25_4 := blk_frozen BK333.out 4; have p334 : 0 ≤ (2 : Int) := (by omega); have q334 : 2 < (t328.length : Int) := of_decide_eq_true (by first | (with_reducible assumption) | assumption); obtain ⟨ad334, A334_4, c334_4, e334, hx334_0, hx334_1, hx334_2, hx334_3, hx334_4, hl334_4, hi334_4⟩ := at_T39 (Kd.R_reads' HO330.out).2.2 2 p334 q334; cases e334; obtain ⟨ce334, hce334, hMe334, hcc334⟩ := Kd.R_get HO330.out z39 2 p334 (by first | exact q334 | exact of_decide_eq_true (by first | (with_reducible assumption) | assumption) | (have e_ := (Kd.R_reads' HO330.out).1; omega)); obtain ⟨ve334_4, rfl, ge334_4⟩ := k39_openM hMe334; have hv334_4 := hcc334 4 _ rfl; rw [add_field _ _ 4 (by omega)] at hv334_4; replace hv334_4 := Option.some.inj (hv334_4.symm.trans hx334_4); rw [hv334_4] at ge334_4; have HL334_4 := Aside0.mk (show Kd.R k39 39 _ _ _ _ ((rd_T39 t328 2).f4) from ge334_4); clear hv334_4 ge334_4; clear hcc334 hce334; (try simp only [show (2 : Int).toNat = 2 from rfl, Nat.reduceMul, Nat.reduceEqDiff, Go.Addr.add, ↓reduceIte] at hx334_0); (try simp only [show (2 : Int).toNat = 2 from rfl, Nat.reduceMul, Nat.reduceEqDiff, Go.Addr.add, ↓reduceIte] at hx334_1); (try simp only [show (2 : Int).toNat = 2 from rfl, Nat.reduceMul, Nat.reduceEqDiff, Go.Addr.add, ↓reduceIte] at hx334_2); (try simp only [show (2 : Int).toNat = 2 from rfl, Nat.reduceMul, Nat.reduceEqDiff, Go.Addr.add, ↓reduceIte] at hx334_3); (try simp only [show (2 : Int).toNat = 2 from rfl, Nat.reduceMul, Nat.reduceEqDiff, Go.Addr.add, ↓reduceIte] at hx334_4); have qi334 : (2 < t328.length) = True := eq_true (by omega); (try rw [show ((2 : Int)).toNat = 2 from rfl] at hx334_0); (try rw [show 2 * 5 = 10 from rfl] at hx334_0); (try rw [show ((2 : Int)).toNat = 2 from rfl] at hx334_1); (try rw [show 2 * 5 = 10 from rfl] at hx334_1); (try rw [show ((2 : Int)).toNat = 2 from rfl] at hx334_2); (try rw [show 2 * 5 = 10 from rfl] at hx334_2); (try rw [show ((2 : Int)).toNat = 2 from rfl] at hx334_3); (try rw [show 2 * 5 = 10 from rfl] at hx334_3); (try rw [show ((2 : Int)).toNat = 2 from rfl] at hx334_4); (try rw [show 2 * 5 = 10 from rfl] at hx334_4); have HR334_4 := Aside0.mk hi334_4; have HC334_4 := Aside0.mk hl334_4; clear hi334_4 hl334_4; replace p334 := eq_true p334; replace q334 := eq_true q334) | (go_at_call 25; (with_reducible refine (sexp_May.calls t324 t325 t326 t327 _ _ t328 false _ ?side1 ?side2 ?side3 A8.out).mono ?_); (case side1 => exact hG.below (by repeat (first | (with_reducible first | exact HB.out | apply below_alloc | apply pw_below_drewN | apply below_drew1 | refine below_set ?_ GE333.out) | exact HB.out))); (case side2 => repeat (first | exact (Kd.R_reads' HO330.out).2.2 | (with_reducible refine Kd.C_alloc ?_ _) | (with_reducible refine Kd.C_drewN ?_ _) | (with_reducible refine Kd.C_drew ?_))); (case side3 => exact (Kd.R_reads' HO330.out).2.1); rintro e w26 ⟨rfl, hb⟩; have n0_ := Aside0.mk (Kd.R_below (by (with_reducible repeat (first | apply Kd.R_alloc | apply Kd.R_drewN | apply Kd.R_drew)); exact HO330.out) hb); have n1_ := Aside0.mk (Kd.R_below (by (with_reducible repeat (first | apply Kd.R_alloc | apply Kd.R_drewN | apply Kd.R_drew)); exact HL334_4.out) hb); have n2_ := Aside0.mk (blk_below (g := gb333) (o := .cells #[.int .i64 t324, .string t325, .int .i64 t326, .int .i64 t327, .slice (some ad334) t328.length co23] 39 (0, 0)) (by (with_reducible repeat (first | refine blk_drewN ?_ _ | refine blk_drew ?_ | refine blk_alloc ?_ _)); exact BK333.out) hb); have n3_ := Aside0.mk (Kd.C_below (by repeat (first | (with_reducible exact HR334_4.out) | (with_reducible refine Kd.C_alloc ?_ _) | (with_reducible refine Kd.C_drewN ?_ _) | (with_reducible refine Kd.C_drew ?_) | exact HR334_4.out)) hb); have n4_ := Aside0.mk (below_step (by repeat (first | (with_reducible first | exact HB.out | apply below_alloc | apply pw_below_drewN | apply below_drew1 | refine below_set ?_ GE333.out) | exact HB.out)) hb); clear HO330; clear HL334_4; clear BK333; clear HR334_4; clear HB; have HO330 := n0_; have HL334_4 := n1_; have BK333 := n2_; have HR334_4 := n3_; have HB := n4_; clear n0_ n1_ n2_ n3_ n4_; (try clear hb); (try clear hb2); (try clear hk); (try clear hi)))
                go_ret
                exact ⟨by first | rfl | (simp [] <;> rfl) | (simp [*] <;> rfl), by repeat (first | (with_reducible first | exact HB.out | apply below_alloc | apply pw_below_drewN | apply below_drew1 | refine below_set ?_ GE333.out) | exact HB.out)⟩
            · rw [if_neg c7] at H
              have c7b0 : (((rd_T39 t328 2).f2) == 5) = false := beq_eq_false_iff_ne.mpr c7
              have c7b1 : (((rd_T39 t328 2).f2) != 5) = true := bne_iff_ne.mpr c7
              obtain rfl := Option.some.inj H
              go_enter Tryd.func23, Tryd.ntmps23
              go_wp2_with (first | ((with_reducible refine gate_callee (f := 24) rfl ?_); refine goesL_ (some 5) rfl rfl Tryd.func24 (by kernel_rfl) rfl #[.string (⟨#[40, 101, 113, 32, 97, 32, 53, 41]⟩ : ByteArray)] rfl (by (try simp only [List.map_toArray, List.map_cons, List.map_nil]); first | done | rfl | (simp only [List.length_drop, List.length_take]; rfl)) ?_; (with_reducible refine (sexp_Parse.calls (⟨#[40, 101, 113, 32, 97, 32, 53, 41]⟩ : ByteArray) t324 t325 t326 t327 t328 t331 t332 _ ?side1 A1.out).mono ?_); (case side1 => exact hG.below (by repeat (first | (with_reducible first | exact HB.out | apply below_alloc | apply pw_below_drewN | apply below_drew1) | exact HB.out))); rintro e w27 ⟨v329, rfl, ho0, hb⟩; refine ⟨_, rfl, ?_⟩; have n0_ := Aside0.mk (Kd.R_lower ho0 (below_size (by repeat (first | (with_reducible first | exact HB.out | apply below_alloc | apply pw_below_drewN | apply below_drew1) | exact HB.out)))); have n1_ := Aside0.mk (below_step (by repeat (first | (with_reducible first | exact HB.out | apply below_alloc | apply pw_below_drewN | apply below_drew1) | exact HB.out)) hb); clear HB; have HO330 := n0_; have HB := n1_; clear n0_ n1_; (try clear hb); (try clear hb2); (try clear hk); (try clear hi); (try clear ho0)) | ((with_reducible refine gate_dst (N := 1) rfl ?_); (try (refine gate_guard (by rfl) ?_; dsimp only)); refine box_event ?hg (N := 1) ?hd (cs := #[.int .i64 0, .string (⟨#[]⟩ : ByteArray), .int .i64 0, .int .i64 0, .slice none 0 0]) (t := 39) ?hr ?_; (case hd => rfl); (case hg => rfl); (case hr => first | (go_simp; done) | (go_simp; rfl)); intro gb333 hg w28 hbox hb; have n0_ := Aside0.mk (Kd.R_below (Kd.R_elderB (by (with_reducible repeat (first | apply Kd.R_alloc | apply Kd.R_drewN | apply Kd.R_drew)); exact HO330.out) gb333 (Nat.le_of_eq hg.symm)) hb); have n1_ := Aside0.mk (below_step (by repeat (first | (with_reducible first | exact HB.out | apply below_alloc | apply pw_below_drewN | apply below_drew1) | exact HB.out)) hb); have n2_ := Aside0.mk (hbox); have n3_ := Aside0.mk ((by rw [hg]; exact (below_size (by repeat (first | (with_reducible first | exact HB.out | apply below_alloc | apply pw_below_drewN | apply below_drew1) | exact HB.out))) : w.heap.size ≤ gb333)); have n4_ := Aside0.mk ((by rw [hg]; exact (below_size (by repeat (first | (with_reducible first | exact HB.out | apply below_alloc | apply pw_below_drewN | apply below_drew1) | exact HB.out))) : w.heap.size ≤ gb333)); clear HO330; clear HB; have HO330 := n0_; have HB := n1_; have BK333 := n2_; have GW333 := n3_; have GE333 := n4_; clear n0_ n1_ n2_ n3_ n4_; clear hb hbox hg; have hcz29_0 : w28.cell? ⟨gb333, 0, none⟩ = some (.int .i64 0) := (blk_cell BK333.out 0).trans rfl; have hcz29_1 : w28.cell? ⟨gb333, 1, none⟩ = some (.string (⟨#[]⟩ : ByteArray)) := (blk_cell BK333.out 1).trans rfl; have hcz29_2 : w28.cell? ⟨gb333, 2, none⟩ = some (.int .i64 0) := (blk_cell BK333.out 2).trans rfl; have hcz29_3 : w28.cell? ⟨gb333, 3, none⟩ = some (.int .i64 0) := (blk_cell BK333.out 3).trans rfl; have hcz29_4 : w28.cell? ⟨gb333, 4, none⟩ = some (.slice none 0 0) := (blk_cell BK333.out 4).trans rfl; have hfz29_0 := blk_frozen BK333.out 0; have hfz29_1 := blk_frozen BK333.out 1; have hfz29_2 := blk_frozen BK333.out 2; have hfz29_3 := blk_frozen BK333.out 3; have hfz29_4 := blk_frozen BK333.out 4; obtain ⟨Ao30, co30, eo30⟩ := Kd.R_slice HO330.out; subst eo30) | ((with_reducible refine gate_store (t := 39) (p := 1) rfl ?_); refine store_event (t := 39) (p := 1) (v := ?vo_w31) (w1 := (((((w28.setCell ⟨gb333, 0, none⟩ (.int .i64 t324)).setCell ⟨gb333, 1, none⟩ (.string t325)).setCell ⟨gb333, 2, none⟩ (.int .i64 t326)).setCell ⟨gb333, 3, none⟩ (.int .i64 t327)).setCell ⟨gb333, 4, none⟩ (.slice Ao30 t328.length co30))) ?hg ?ho ?hn ?hr ?_; (case ho => rfl); (case hg => rfl); (case hn => rfl); (case hr => first | (go_simp; done) | (go_simp; rfl)); intro w31 hw; have n0_ : Aside0 (Kd.R k39 39 w31 w.heap.size (fun k_ => k_ ≠ gb333) (.slice Ao30 t328.length co30) t328) := ⟨(by rw [hw]; exact (by (with_reducible repeat (first | apply Kd.R_alloc | apply Kd.R_drewN | apply Kd.R_drew)); exact Kd.R_mono (Kd.R_far (p := ⟨gb333, 4, none⟩) (Kd.R_far (p := ⟨gb333, 3, none⟩) (Kd.R_far (p := ⟨gb333, 2, none⟩) (Kd.R_far (p := ⟨gb333, 1, none⟩) (Kd.R_far (p := ⟨gb333, 0, none⟩) (Kd.R_mono HO330.out (fun k_ hk => (⟨hk, hk.2⟩ : _ ∧ k_ ≠ gb333))) (fun _ hk => hk.2) (.int .i64 t324)) (fun _ hk => hk.2) (.string t325)) (fun _ hk => hk.2) (.int .i64 t326)) (fun _ hk => hk.2) (.int .i64 t327)) (fun _ hk => hk.2) (.slice Ao30 t328.length co30)) (fun _ hk => hk.1.2)))⟩; have n1_ : Aside0 (w31.heap[gb333]? = some (.cells #[.int .i64 t324, .string t325, .int .i64 t326, .int .i64 t327, .slice Ao30 t328.length co30] 39 (0, 0))) := ⟨(by rw [hw]; exact (by (with_reducible repeat (first | refine blk_drewN ?_ _ | refine blk_drew ?_ | refine blk_alloc ?_ _)); refine blk_put (cs := #[.int .i64 t324, .string t325, .int .i64 t326, .int .i64 t327, .slice none 0 0]) ?_ 4 _ rfl; (with_reducible repeat (first | refine blk_drewN ?_ _ | refine blk_drew ?_ | refine blk_alloc ?_ _)); refine blk_put (cs := #[.int .i64 t324, .string t325, .int .i64 t326, .int .i64 0, .slice none 0 0]) ?_ 3 _ rfl; (with_reducible repeat (first | refine blk_drewN ?_ _ | refine blk_drew ?_ | refine blk_alloc ?_ _)); refine blk_put (cs := #[.int .i64 t324, .string t325, .int .i64 0, .int .i64 0, .slice none 0 0]) ?_ 2 _ rfl; (with_reducible repeat (first | refine blk_drewN ?_ _ | refine blk_drew ?_ | refine blk_alloc ?_ _)); refine blk_put (cs := #[.int .i64 t324, .string (⟨#[]⟩ : ByteArray), .int .i64 0, .int .i64 0, .slice none 0 0]) ?_ 1 _ rfl; (with_reducible repeat (first | refine blk_drewN ?_ _ | refine blk_drew ?_ | refine blk_alloc ?_ _)); refine blk_put (cs := #[.int .i64 0, .string (⟨#[]⟩ : ByteArray), .int .i64 0, .int .i64 0, .slice none 0 0]) ?_ 0 _ rfl; (with_reducible repeat (first | refine blk_drewN ?_ _ | refine blk_drew ?_ | refine blk_alloc ?_ _)); exact BK333.out))⟩; have n2_ : Aside0 (Below w.heap.size w w31) := ⟨(by rw [hw]; exact (by repeat (first | (with_reducible first | exact HB.out | apply below_alloc | apply pw_below_drewN | apply below_drew1 | refine below_set ?_ GE333.out) | exact HB.out)))⟩; clear hw; clear HO330; clear BK333; clear HB; have HO330 := n0_; have BK333 := n1_; have HB := n2_; clear n0_ n1_ n2_; have hcz32_0 : w31.cell? ⟨gb333, 0, none⟩ = some (.int .i64 t324) := (blk_cell BK333.out 0).trans rfl; have hcz32_1 : w31.cell? ⟨gb333, 1, none⟩ = some (.string t325) := (blk_cell BK333.out 1).trans rfl; have hcz32_2 : w31.cell? ⟨gb333, 2, none⟩ = some (.int .i64 t326) := (blk_cell BK333.out 2).trans rfl; have hcz32_3 : w31.cell? ⟨gb333, 3, none⟩ = some (.int .i64 t327) := (blk_cell BK333.out 3).trans rfl; have hcz32_4 : w31.cell? ⟨gb333, 4, none⟩ = some (.slice Ao30 t328.length co30) := (blk_cell BK333.out 4).trans rfl; have hfz32_0 := blk_frozen BK333.out 0; have hfz32_1 := blk_frozen BK333.out 1; have hfz32_2 := blk_frozen BK333.out 2; have hfz32_3 := blk_frozen BK333.out 3; have hfz32_4 := blk_frozen BK333.out 4; have p334 : 0 ≤ (2 : Int) := (by omega); have q334 : 2 < (t328.length : Int) := of_decide_eq_true (by first | (with_reducible assumption) | assumption); obtain ⟨ad334, A334_4, c334_4, e334, hx334_0, hx334_1, hx334_2, hx334_3, hx334_4, hl334_4, hi334_4⟩ := at_T39 (Kd.R_reads' HO330.out).2.2 2 p334 q334; cases e334; obtain ⟨ce334, hce334, hMe334, hcc334⟩ := Kd.R_get HO330.out z39 2 p334 (by first | exact q334 | exact of_decide_eq_true (by first | (with_reducible assumption) | assumption) | (have e_ := (Kd.R_reads' HO330.out).1; omega)); obtain ⟨ve334_4, rfl, ge334_4⟩ := k39_openM hMe334; have hv334_4 := hcc334 4 _ rfl; rw [add_field _ _ 4 (by omega)] at hv334_4; replace hv334_4 := Option.some.inj (hv334_4.symm.trans hx334_4); rw [hv334_4] at ge334_4; have HL334_4 := Aside0.mk (show Kd.R k39 39 _ _ _ _ ((rd_T39 t328 2).f4) from ge334_4); clear hv334_4 ge334_4; clear hcc334 hce334; (try simp only [show (2 : Int).toNat = 2 from rfl, Nat.reduceMul, Nat.reduceEqDiff, Go.Addr.add, ↓reduceIte] at hx334_0); (try simp only [show (2 : Int).toNat = 2 from rfl, Nat.reduceMul, Nat.reduceEqDiff, Go.Addr.add, ↓reduceIte] at hx334_1); (try simp only [show (2 : Int).toNat = 2 from rfl, Nat.reduceMul, Nat.reduceEqDiff, Go.Addr.add, ↓reduceIte] at hx334_2); (try simp only [show (2 : Int).toNat = 2 from rfl, Nat.reduceMul, Nat.reduceEqDiff, Go.Addr.add, ↓reduceIte] at hx334_3); (try simp only [show (2 : Int).toNat = 2 from rfl, Nat.reduceMul, Nat.reduceEqDiff, Go.Addr.add, ↓reduceIte] at hx334_4); have qi334 : (2 < t328.length) = True := eq_true (by omega); (try rw [show ((2 : Int)).toNat = 2 from rfl] at hx334_0); (try rw [show 2 * 5 = 10 from rfl] at hx334_0); (try rw [show ((2 : Int)).toNat = 2 from rfl] at hx334_1); (try rw [show 2 * 5 = 10 from rfl] at hx334_1); (try rw [show ((2 : Int)).toNat = 2 from rfl] at hx334_2); (try rw [show 2 * 5 = 10 from rfl] at hx334_2); (try rw [show ((2 : Int)).toNat = 2 from rfl] at hx334_3); (try rw [show 2 * 5 = 10 from rfl] at hx334_3); (try rw [show ((2 : Int)).toNat = 2 from rfl] at hx334_4); (try rw [show 2 * 5 = 10 from rfl] at hx334_4); have HR334_4 := Aside0.mk hi334_4; have HC334_4 := Aside0.mk hl334_4; clear hi334_4 hl334_4; replace p334 := eq_true p334; replace q334 := eq_true q334))
              go_ret
              exact ⟨by first | rfl | (simp [] <;> rfl) | (simp [*] <;> rfl), by repeat (first | (with_reducible first | exact HB.out | apply below_alloc | apply pw_below_drewN | apply below_drew1 | refine below_set ?_ GE333.out) | exact HB.out)⟩
          · rw [if_neg c6] at H
            exact absurd H (by simp)
        · rw [if_neg c5] at H
          have c5b0 : ((t328.length : Int) == 3) = false := beq_eq_false_iff_ne.mpr c5
          have c5b1 : ((t328.length : Int) != 3) = true := bne_iff_ne.mpr c5
          obtain rfl := Option.some.inj H
          go_enter Tryd.func23, Tryd.ntmps23
          go_wp2_with (first | ((with_reducible refine gate_callee (f := 24) rfl ?_); refine goesL_ (some 5) rfl rfl Tryd.func24 (by kernel_rfl) rfl #[.string (⟨#[40, 101, 113, 32, 97, 32, 53, 41]⟩ : ByteArray)] rfl (by (try simp only [List.map_toArray, List.map_cons, List.map_nil]); first | done | rfl | (simp only [List.length_drop, List.length_take]; rfl)) ?_; (with_reducible refine (sexp_Parse.calls (⟨#[40, 101, 113, 32, 97, 32, 53, 41]⟩ : ByteArray) t324 t325 t326 t327 t328 t331 t332 _ ?side1 A1.out).mono ?_); (case side1 => exact hG.below (by repeat (first | (with_reducible first | exact HB.out | apply below_alloc | apply pw_below_drewN | apply below_drew1) | exact HB.out))); rintro e w33 ⟨v329, rfl, ho0, hb⟩; refine ⟨_, rfl, ?_⟩; have n0_ := Aside0.mk (Kd.R_lower ho0 (below_size (by repeat (first | (with_reducible first | exact HB.out | apply below_alloc | apply pw_below_drewN | apply below_drew1) | exact HB.out)))); have n1_ := Aside0.mk (below_step (by repeat (first | (with_reducible first | exact HB.out | apply below_alloc | apply pw_below_drewN | apply below_drew1) | exact HB.out)) hb); clear HB; have HO330 := n0_; have HB := n1_; clear n0_ n1_; (try clear hb); (try clear hb2); (try clear hk); (try clear hi); (try clear ho0)) | ((with_reducible refine gate_dst (N := 1) rfl ?_); (try (refine gate_guard (by rfl) ?_; dsimp only)); refine box_event ?hg (N := 1) ?hd (cs := #[.int .i64 0, .string (⟨#[]⟩ : ByteArray), .int .i64 0, .int .i64 0, .slice none 0 0]) (t := 39) ?hr ?_; (case hd => rfl); (case hg => rfl); (case hr => first | (go_simp; done) | (go_simp; rfl)); intro gb333 hg w34 hbox hb; have n0_ := Aside0.mk (Kd.R_below (Kd.R_elderB (by (with_reducible repeat (first | apply Kd.R_alloc | apply Kd.R_drewN | apply Kd.R_drew)); exact HO330.out) gb333 (Nat.le_of_eq hg.symm)) hb); have n1_ := Aside0.mk (below_step (by repeat (first | (with_reducible first | exact HB.out | apply below_alloc | apply pw_below_drewN | apply below_drew1) | exact HB.out)) hb); have n2_ := Aside0.mk (hbox); have n3_ := Aside0.mk ((by rw [hg]; exact (below_size (by repeat (first | (with_reducible first | exact HB.out | apply below_alloc | apply pw_below_drewN | apply below_drew1) | exact HB.out))) : w.heap.size ≤ gb333)); have n4_ := Aside0.mk ((by rw [hg]; exact (below_size (by repeat (first | (with_reducible first | exact HB.out | apply below_alloc | apply pw_below_drewN | apply below_drew1) | exact HB.out))) : w.heap.size ≤ gb333)); clear HO330; clear HB; have HO330 := n0_; have HB := n1_; have BK333 := n2_; have GW333 := n3_; have GE333 := n4_; clear n0_ n1_ n2_ n3_ n4_; clear hb hbox hg; have hcz35_0 : w34.cell? ⟨gb333, 0, none⟩ = some (.int .i64 0) := (blk_cell BK333.out 0).trans rfl; have hcz35_1 : w34.cell? ⟨gb333, 1, none⟩ = some (.string (⟨#[]⟩ : ByteArray)) := (blk_cell BK333.out 1).trans rfl; have hcz35_2 : w34.cell? ⟨gb333, 2, none⟩ = some (.int .i64 0) := (blk_cell BK333.out 2).trans rfl; have hcz35_3 : w34.cell? ⟨gb333, 3, none⟩ = some (.int .i64 0) := (blk_cell BK333.out 3).trans rfl; have hcz35_4 : w34.cell? ⟨gb333, 4, none⟩ = some (.slice none 0 0) := (blk_cell BK333.out 4).trans rfl; have hfz35_0 := blk_frozen BK333.out 0; have hfz35_1 := blk_frozen BK333.out 1; have hfz35_2 := blk_frozen BK333.out 2; have hfz35_3 := blk_frozen BK333.out 3; have hfz35_4 := blk_frozen BK333.out 4; obtain ⟨Ao36, co36, eo36⟩ := Kd.R_slice HO330.out; subst eo36))
          go_ret
          exact ⟨by first | rfl | (simp [] <;> rfl) | (simp [*] <;> rfl), by repeat (first | (with_reducible first | exact HB.out | apply below_alloc | apply pw_below_drewN | apply below_drew1 | refine below_set ?_ GE333.out) | exact HB.out)⟩
      · rw [if_neg c4] at H
        have c4b0 : (t324 == 4) = false := beq_eq_false_iff_ne.mpr c4
        have c4b1 : (t324 != 4) = true := bne_iff_ne.mpr c4
        obtain rfl := Option.some.inj H
        go_enter Tryd.func23, Tryd.ntmps23
        go_wp2_with (first | ((with_reducible refine gate_callee (f := 24) rfl ?_); refine goesL_ (some 5) rfl rfl Tryd.func24 (by kernel_rfl) rfl #[.string (⟨#[40, 101, 113, 32, 97, 32, 53, 41]⟩ : ByteArray)] rfl (by (try simp only [List.map_toArray, List.map_cons, List.map_nil]); first | done | rfl | (simp only [List.length_drop, List.length_take]; rfl)) ?_; (with_reducible refine (sexp_Parse.calls (⟨#[40, 101, 113, 32, 97, 32, 53, 41]⟩ : ByteArray) t324 t325 t326 t327 t328 t331 t332 _ ?side1 A1.out).mono ?_); (case side1 => exact hG.below (by repeat (first | (with_reducible first | exact HB.out | apply below_alloc | apply pw_below_drewN | apply below_drew1) | exact HB.out))); rintro e w37 ⟨v329, rfl, ho0, hb⟩; refine ⟨_, rfl, ?_⟩; have n0_ := Aside0.mk (Kd.R_lower ho0 (below_size (by repeat (first | (with_reducible first | exact HB.out | apply below_alloc | apply pw_below_drewN | apply below_drew1) | exact HB.out)))); have n1_ := Aside0.mk (below_step (by repeat (first | (with_reducible first | exact HB.out | apply below_alloc | apply pw_below_drewN | apply below_drew1) | exact HB.out)) hb); clear HB; have HO330 := n0_; have HB := n1_; clear n0_ n1_; (try clear hb); (try clear hb2); (try clear hk); (try clear hi); (try clear ho0)) | ((with_reducible refine gate_dst (N := 1) rfl ?_); (try (refine gate_guard (by rfl) ?_; dsimp only)); refine box_event ?hg (N := 1) ?hd (cs := #[.int .i64 0, .string (⟨#[]⟩ : ByteArray), .int .i64 0, .int .i64 0, .slice none 0 0]) (t := 39) ?hr ?_; (case hd => rfl); (case hg => rfl); (case hr => first | (go_simp; done) | (go_simp; rfl)); intro gb333 hg w38 hbox hb; have n0_ := Aside0.mk (Kd.R_below (Kd.R_elderB (by (with_reducible repeat (first | apply Kd.R_alloc | apply Kd.R_drewN | apply Kd.R_drew)); exact HO330.out) gb333 (Nat.le_of_eq hg.symm)) hb); have n1_ := Aside0.mk (below_step (by repeat (first | (with_reducible first | exact HB.out | apply below_alloc | apply pw_below_drewN | apply below_drew1) | exact HB.out)) hb); have n2_ := Aside0.mk (hbox); have n3_ := Aside0.mk ((by rw [hg]; exact (below_size (by repeat (first | (with_reducible first | exact HB.out | apply below_alloc | apply pw_below_drewN | apply below_drew1) | exact HB.out))) : w.heap.size ≤ gb333)); have n4_ := Aside0.mk ((by rw [hg]; exact (below_size (by repeat (first | (with_reducible first | exact HB.out | apply below_alloc | apply pw_below_drewN | apply below_drew1) | exact HB.out))) : w.heap.size ≤ gb333)); clear HO330; clear HB; have HO330 := n0_; have HB := n1_; have BK333 := n2_; have GW333 := n3_; have GE333 := n4_; clear n0_ n1_ n2_ n3_ n4_; clear hb hbox hg; have hcz39_0 : w38.cell? ⟨gb333, 0, none⟩ = some (.int .i64 0) := (blk_cell BK333.out 0).trans rfl; have hcz39_1 : w38.cell? ⟨gb333, 1, none⟩ = some (.string (⟨#[]⟩ : ByteArray)) := (blk_cell BK333.out 1).trans rfl; have hcz39_2 : w38.cell? ⟨gb333, 2, none⟩ = some (.int .i64 0) := (blk_cell BK333.out 2).trans rfl; have hcz39_3 : w38.cell? ⟨gb333, 3, none⟩ = some (.int .i64 0) := (blk_cell BK333.out 3).trans rfl; have hcz39_4 : w38.cell? ⟨gb333, 4, none⟩ = some (.slice none 0 0) := (blk_cell BK333.out 4).trans rfl; have hfz39_0 := blk_frozen BK333.out 0; have hfz39_1 := blk_frozen BK333.out 1; have hfz39_2 := blk_frozen BK333.out 2; have hfz39_3 := blk_frozen BK333.out 3; have hfz39_4 := blk_frozen BK333.out 4; obtain ⟨Ao40, co40, eo40⟩ := Kd.R_slice HO330.out; subst eo40))
        go_ret
        exact ⟨by first | rfl | (simp [] <;> rfl) | (simp [*] <;> rfl), by repeat (first | (with_reducible first | exact HB.out | apply below_alloc | apply pw_below_drewN | apply below_drew1 | refine below_set ?_ GE333.out) | exact HB.out)⟩
    · rw [if_neg c3] at H
      have c3b0 : (t331 == 8) = false := beq_eq_false_iff_ne.mpr c3
      have c3b1 : (t331 != 8) = true := bne_iff_ne.mpr c3
      obtain rfl := Option.some.inj H
      go_enter Tryd.func23, Tryd.ntmps23
      go_wp2_with (first | ((with_reducible refine gate_callee (f := 24) rfl ?_); refine goesL_ (some 5) rfl rfl Tryd.func24 (by kernel_rfl) rfl #[.string (⟨#[40, 101, 113, 32, 97, 32, 53, 41]⟩ : ByteArray)] rfl (by (try simp only [List.map_toArray, List.map_cons, List.map_nil]); first | done | rfl | (simp only [List.length_drop, List.length_take]; rfl)) ?_; (with_reducible refine (sexp_Parse.calls (⟨#[40, 101, 113, 32, 97, 32, 53, 41]⟩ : ByteArray) t324 t325 t326 t327 t328 t331 t332 _ ?side1 A1.out).mono ?_); (case side1 => exact hG.below (by repeat (first | (with_reducible first | exact HB.out | apply below_alloc | apply pw_below_drewN | apply below_drew1) | exact HB.out))); rintro e w41 ⟨v329, rfl, ho0, hb⟩; refine ⟨_, rfl, ?_⟩; have n0_ := Aside0.mk (Kd.R_lower ho0 (below_size (by repeat (first | (with_reducible first | exact HB.out | apply below_alloc | apply pw_below_drewN | apply below_drew1) | exact HB.out)))); have n1_ := Aside0.mk (below_step (by repeat (first | (with_reducible first | exact HB.out | apply below_alloc | apply pw_below_drewN | apply below_drew1) | exact HB.out)) hb); clear HB; have HO330 := n0_; have HB := n1_; clear n0_ n1_; (try clear hb); (try clear hb2); (try clear hk); (try clear hi); (try clear ho0)) | ((with_reducible refine gate_dst (N := 1) rfl ?_); (try (refine gate_guard (by rfl) ?_; dsimp only)); refine box_event ?hg (N := 1) ?hd (cs := #[.int .i64 0, .string (⟨#[]⟩ : ByteArray), .int .i64 0, .int .i64 0, .slice none 0 0]) (t := 39) ?hr ?_; (case hd => rfl); (case hg => rfl); (case hr => first | (go_simp; done) | (go_simp; rfl)); intro gb333 hg w42 hbox hb; have n0_ := Aside0.mk (Kd.R_below (Kd.R_elderB (by (with_reducible repeat (first | apply Kd.R_alloc | apply Kd.R_drewN | apply Kd.R_drew)); exact HO330.out) gb333 (Nat.le_of_eq hg.symm)) hb); have n1_ := Aside0.mk (below_step (by repeat (first | (with_reducible first | exact HB.out | apply below_alloc | apply pw_below_drewN | apply below_drew1) | exact HB.out)) hb); have n2_ := Aside0.mk (hbox); have n3_ := Aside0.mk ((by rw [hg]; exact (below_size (by repeat (first | (with_reducible first | exact HB.out | apply below_alloc | apply pw_below_drewN | apply below_drew1) | exact HB.out))) : w.heap.size ≤ gb333)); have n4_ := Aside0.mk ((by rw [hg]; exact (below_size (by repeat (first | (with_reducible first | exact HB.out | apply below_alloc | apply pw_below_drewN | apply below_drew1) | exact HB.out))) : w.heap.size ≤ gb333)); clear HO330; clear HB; have HO330 := n0_; have HB := n1_; have BK333 := n2_; have GW333 := n3_; have GE333 := n4_; clear n0_ n1_ n2_ n3_ n4_; clear hb hbox hg; have hcz43_0 : w42.cell? ⟨gb333, 0, none⟩ = some (.int .i64 0) := (blk_cell BK333.out 0).trans rfl; have hcz43_1 : w42.cell? ⟨gb333, 1, none⟩ = some (.string (⟨#[]⟩ : ByteArray)) := (blk_cell BK333.out 1).trans rfl; have hcz43_2 : w42.cell? ⟨gb333, 2, none⟩ = some (.int .i64 0) := (blk_cell BK333.out 2).trans rfl; have hcz43_3 : w42.cell? ⟨gb333, 3, none⟩ = some (.int .i64 0) := (blk_cell BK333.out 3).trans rfl; have hcz43_4 : w42.cell? ⟨gb333, 4, none⟩ = some (.slice none 0 0) := (blk_cell BK333.out 4).trans rfl; have hfz43_0 := blk_frozen BK333.out 0; have hfz43_1 := blk_frozen BK333.out 1; have hfz43_2 := blk_frozen BK333.out 2; have hfz43_3 := blk_frozen BK333.out 3; have hfz43_4 := blk_frozen BK333.out 4; obtain ⟨Ao44, co44, eo44⟩ := Kd.R_slice HO330.out; subst eo44))
      go_ret
      exact ⟨by first | rfl | (simp [] <;> rfl) | (simp [*] <;> rfl), by repeat (first | (with_reducible first | exact HB.out | apply below_alloc | apply pw_below_drewN | apply below_drew1 | refine below_set ?_ GE333.out) | exact HB.out)⟩
  · rw [if_neg c2] at H
    have c2b0 : (t332 == 0) = false := beq_eq_false_iff_ne.mpr c2
    have c2b1 : (t332 != 0) = true := bne_iff_ne.mpr c2
    obtain rfl := Option.some.inj H
    go_enter Tryd.func23, Tryd.ntmps23
    go_wp2_with (first | ((with_reducible refine gate_callee (f := 24) rfl ?_); refine goesL_ (some 5) rfl rfl Tryd.func24 (by kernel_rfl) rfl #[.string (⟨#[40, 101, 113, 32, 97, 32, 53, 41]⟩ : ByteArray)] rfl (by (try simp only [List.map_toArray, List.map_cons, List.map_nil]); first | done | rfl | (simp only [List.length_drop, List.length_take]; rfl)) ?_; (with_reducible refine (sexp_Parse.calls (⟨#[40, 101, 113, 32, 97, 32, 53, 41]⟩ : ByteArray) t324 t325 t326 t327 t328 t331 t332 _ ?side1 A1.out).mono ?_); (case side1 => exact hG.below (by repeat (first | (with_reducible first | exact HB.out | apply below_alloc | apply pw_below_drewN | apply below_drew1) | exact HB.out))); rintro e w45 ⟨v329, rfl, ho0, hb⟩; refine ⟨_, rfl, ?_⟩; have n0_ := Aside0.mk (Kd.R_lower ho0 (below_size (by repeat (first | (with_reducible first | exact HB.out | apply below_alloc | apply pw_below_drewN | apply below_drew1) | exact HB.out)))); have n1_ := Aside0.mk (below_step (by repeat (first | (with_reducible first | exact HB.out | apply below_alloc | apply pw_below_drewN | apply below_drew1) | exact HB.out)) hb); clear HB; have HO330 := n0_; have HB := n1_; clear n0_ n1_; (try clear hb); (try clear hb2); (try clear hk); (try clear hi); (try clear ho0)) | ((with_reducible refine gate_dst (N := 1) rfl ?_); (try (refine gate_guard (by rfl) ?_; dsimp only)); refine box_event ?hg (N := 1) ?hd (cs := #[.int .i64 0, .string (⟨#[]⟩ : ByteArray), .int .i64 0, .int .i64 0, .slice none 0 0]) (t := 39) ?hr ?_; (case hd => rfl); (case hg => rfl); (case hr => first | (go_simp; done) | (go_simp; rfl)); intro gb333 hg w46 hbox hb; have n0_ := Aside0.mk (Kd.R_below (Kd.R_elderB (by (with_reducible repeat (first | apply Kd.R_alloc | apply Kd.R_drewN | apply Kd.R_drew)); exact HO330.out) gb333 (Nat.le_of_eq hg.symm)) hb); have n1_ := Aside0.mk (below_step (by repeat (first | (with_reducible first | exact HB.out | apply below_alloc | apply pw_below_drewN | apply below_drew1) | exact HB.out)) hb); have n2_ := Aside0.mk (hbox); have n3_ := Aside0.mk ((by rw [hg]; exact (below_size (by repeat (first | (with_reducible first | exact HB.out | apply below_alloc | apply pw_below_drewN | apply below_drew1) | exact HB.out))) : w.heap.size ≤ gb333)); have n4_ := Aside0.mk ((by rw [hg]; exact (below_size (by repeat (first | (with_reducible first | exact HB.out | apply below_alloc | apply pw_below_drewN | apply below_drew1) | exact HB.out))) : w.heap.size ≤ gb333)); clear HO330; clear HB; have HO330 := n0_; have HB := n1_; have BK333 := n2_; have GW333 := n3_; have GE333 := n4_; clear n0_ n1_ n2_ n3_ n4_; clear hb hbox hg; have hcz47_0 : w46.cell? ⟨gb333, 0, none⟩ = some (.int .i64 0) := (blk_cell BK333.out 0).trans rfl; have hcz47_1 : w46.cell? ⟨gb333, 1, none⟩ = some (.string (⟨#[]⟩ : ByteArray)) := (blk_cell BK333.out 1).trans rfl; have hcz47_2 : w46.cell? ⟨gb333, 2, none⟩ = some (.int .i64 0) := (blk_cell BK333.out 2).trans rfl; have hcz47_3 : w46.cell? ⟨gb333, 3, none⟩ = some (.int .i64 0) := (blk_cell BK333.out 3).trans rfl; have hcz47_4 : w46.cell? ⟨gb333, 4, none⟩ = some (.slice none 0 0) := (blk_cell BK333.out 4).trans rfl; have hfz47_0 := blk_frozen BK333.out 0; have hfz47_1 := blk_frozen BK333.out 1; have hfz47_2 := blk_frozen BK333.out 2; have hfz47_3 := blk_frozen BK333.out 3; have hfz47_4 := blk_frozen BK333.out 4; obtain ⟨Ao48, co48, eo48⟩ := Kd.R_slice HO330.out; subst eo48))
    go_ret
    exact ⟨by first | rfl | (simp [] <;> rfl) | (simp [*] <;> rfl), by repeat (first | (with_reducible first | exact HB.out | apply below_alloc | apply pw_below_drewN | apply below_drew1 | refine below_set ?_ GE333.out) | exact HB.out)⟩
end Go.Proofs.YtngcojabofkbjaaDoor.P
namespace Go.Proofs.YtngcojabofkbjaaDoor.P
open Go.RowKit Go.Proofs.YtngcojabofkbjaaDoorW.PrintWords Go.Proofs.YtngcojabofkbjaaDoorW.PrintLast Go.Proofs.YtngcojabofkbjaaDoorW.PrintMore
set_option linter.unusedVariables false
set_option linter.unusedSimpArgs false
mutual
def trufflelaw14_SexpMay.j0 : Nat → ByteArray → Bool → Bool → Option (Bool)
  | 0, _, _, _ => none
  | k + 1, x0, x3, x16 => if x16 = true then (some x3) else ((sexp_Parse.f x0).bind fun bt338 => (if bt338.2.2.2.2.2.2 = 0 then (trufflelaw14_SexpMay.l0 k x0 bt338.2.2.2.2.2.1 bt338.2.2.2.1 0 bt338.1 bt338.2.1 bt338.2.2.1 bt338.2.2.2.1 bt338.2.2.2.2.1) else (if bt338.1 = 0 then (if bt338.2.1.toList = ([] : List UInt8) then (if (bt338.2.2.2.2.1.length : Int) = 0 then (if bt338.2.2.2.2.2.1 ≥ 0 then (some (decide (bt338.2.2.2.2.2.1 ≤ (x0.size : Int)))) else (some false)) else (some false)) else (some false)) else (some false))))
def trufflelaw14_SexpMay.l0 : Nat → ByteArray → Int → Int → Int → Int → ByteArray → Int → Int → List (S39) → Option (Bool)
  | 0, _, _, _, _, _, _, _, _, _ => none
  | k + 1, x0, x5, x7, x8, x348000, x348001, x348002, x348003, x348004 => if x8 < (x348004.length : Int) then (if 0 ≤ x8 then (if ((rd_T39 x348004 x8).f3) ≤ x7 then (some false) else (if ((rd_T39 x348004 x8).f3) ≥ (x0.size : Int) then (some false) else (trufflelaw14_SexpMay.l0 k x0 x5 ((rd_T39 x348004 x8).f3) (wrap64 (x8 + 1)) x348000 x348001 x348002 x348003 x348004))) else (none)) else ((sexp_May.f x348000 x348001 x348002 x348003 x348004).bind fun t351 => (if t351 = true then (if x5 = (x0.size : Int) then (if x348003 ≥ 0 then (some (decide (x348003 < (x0.size : Int)))) else (some false)) else (some false)) else (some false)))
end
def trufflelaw14_SexpMay.f (k : Nat) (a0 : ByteArray) : Option (Bool) := (trufflelaw14_awake.f).bind fun t337 => (if t337 = true then (trufflelaw14_SexpMay.j0 k a0 t337 (decide ((a0.size : Int) > 3000))) else (trufflelaw14_SexpMay.j0 k a0 t337 true))
set_option maxHeartbeats 8000000 in
set_option maxRecDepth 100000 in
theorem trufflelaw14_SexpMay.calls (k : Nat) (a0 : ByteArray) (w : World) (hG : GInv w) (h : trufflelaw14_SexpMay.f k a0 = some true) :
    Calls Tryd.prog 9 #[.string a0] w fun e w' => e = .returned (.bool true) ∧ Below w.heap.size w w' := by
  have hu39 := Tryd.underlying39
  have HB := Aside0.mk (Below.refl w.heap.size w)
  have H : ((trufflelaw14_awake.f).bind fun t337 => (if t337 = true then (trufflelaw14_SexpMay.j0 k a0 t337 (decide ((a0.size : Int) > 3000))) else (trufflelaw14_SexpMay.j0 k a0 t337 true))) = some true := h
  clear h
  replace H := Option.bind_eq_some_iff.mp H
  obtain ⟨t337, A20, H⟩ := H
  replace H : (if t337 = true then (trufflelaw14_SexpMay.j0 k a0 t337 (decide ((a0.size : Int) > 3000))) else (trufflelaw14_SexpMay.j0 k a0 t337 true)) = some true := H
  have A2 := Aside0.mk A20
  clear A20
  have HC3 := Aside0.mk H
  clear H
  go_enter Tryd.func9, Tryd.ntmps9
  go_upto_region 2 with (first | ((with_reducible refine gate_callee (f := 23) rfl ?_); refine goesL_ (some 9) rfl rfl Tryd.func23 (by kernel_rfl) rfl #[] rfl (by (try simp only [List.map_toArray, List.map_cons, List.map_nil]); first | done | rfl | (simp only [List.length_drop, List.length_take]; rfl)) ?_; (with_reducible refine (trufflelaw14_awake.calls  t337 _ ?side1 A2.out).mono ?_); (case side1 => exact hG.below (by repeat (first | (with_reducible first | exact HB.out | apply below_alloc | apply pw_below_drewN | apply below_drew1) | exact HB.out))); rintro e w4 ⟨rfl, hb⟩; refine ⟨_, rfl, ?_⟩; have n0_ := Aside0.mk (below_step (by repeat (first | (with_reducible first | exact HB.out | apply below_alloc | apply pw_below_drewN | apply below_drew1) | exact HB.out)) hb); clear HB; have HB := n0_; clear n0_; (try clear hb); (try clear hb2); (try clear hk); (try clear hi)))
  (try simp only [Act.put, List.setIfInBounds_toArray, List.set_cons_zero, List.set_cons_succ])
  go_cut [16] (fun v16 wc => ∃ (kq : Nat) (x16_2 : Bool), v16 = .bool x16_2 ∧ Aside0 (trufflelaw14_SexpMay.j0 kq a0 t337 x16_2 = some true) ∧ Aside0 (kq ≤ k) ∧ Aside0 (Below w.heap.size w wc))
  case first =>
    have H := HC3.out
    clear HC3
    by_cases c5 : t337 = true
    · subst c5
      have H1 : (trufflelaw14_SexpMay.j0 k a0 true (decide ((a0.size : Int) > 3000))) = some true := by first | (rw [if_pos rfl] at H; exact H) | rfl
      clear H
      have H := H1
      clear H1
      have H' := Aside0.mk H
      clear H
      go_wp2
      go_meet
      case rel => exact ⟨_, (decide ((a0.size : Int) > 3000)), (by first | rfl | (simp; done) | (simp [*]; done)), H', ⟨by first | omega | exact Nat.le_refl _⟩, ⟨by repeat (first | (with_reducible first | exact HB.out | apply below_alloc | apply pw_below_drewN | apply below_drew1) | exact HB.out)⟩⟩
    · replace c5 := Bool.eq_false_iff.mpr c5
      subst c5
      have H1 : (trufflelaw14_SexpMay.j0 k a0 false true) = some true := by first | (rw [if_neg (show ¬ (false = true) by decide)] at H; exact H) | rfl
      clear H
      have H := H1
      clear H1
      have H' := Aside0.mk H
      clear H
      go_wp2
      go_meet
      case rel => exact ⟨_, (true), (by first | rfl | (simp; done) | (simp [*]; done)), H', ⟨by first | omega | exact Nat.le_refl _⟩, ⟨by repeat (first | (with_reducible first | exact HB.out | apply below_alloc | apply pw_below_drewN | apply below_drew1) | exact HB.out)⟩⟩
  case rest =>
    clear HC3
    try clear c2
    try clear p2
    try clear c5
    obtain ⟨kq, x16_2, rfl, HA, HJ2, HB⟩ := hcut
    cases kq with
    | zero => exact absurd HA.out (by simp [trufflelaw14_SexpMay.j0])
    | succ kj2 =>
      have H := HA.out
      clear HA
      simp only [trufflelaw14_SexpMay.j0] at H
      by_cases c6 : x16_2 = true
      · subst c6
        have H1 : (some t337) = some true := by first | (rw [if_pos rfl] at H; exact H) | rfl
        clear H
        have H := H1
        clear H1
        have hv_ := Option.some.inj H
        go_wp2
        go_ret
        exact ⟨by first | rfl | (rw [hv_]; done) | (simp [hv_]; done) | (simp [← hv_]; done) | (simp [] <;> rfl) | (simp [*] <;> rfl), by repeat (first | (with_reducible first | exact HB.out | apply below_alloc | apply pw_below_drewN | apply below_drew1) | exact HB.out)⟩
      · replace c6 := Bool.eq_false_iff.mpr c6
        subst c6
        have H1 : ((sexp_Parse.f a0).bind fun bt338 => (if bt338.2.2.2.2.2.2 = 0 then (trufflelaw14_SexpMay.l0 kj2 a0 bt338.2.2.2.2.2.1 bt338.2.2.2.1 0 bt338.1 bt338.2.1 bt338.2.2.1 bt338.2.2.2.1 bt338.2.2.2.2.1) else (if bt338.1 = 0 then (if bt338.2.1.toList = ([] : List UInt8) then (if (bt338.2.2.2.2.1.length : Int) = 0 then (if bt338.2.2.2.2.2.1 ≥ 0 then (some (decide (bt338.2.2.2.2.2.1 ≤ (a0.size : Int)))) else (some false)) else (some false)) else (some false)) else (some false)))) = some true := by first | (rw [if_neg (show ¬ (false = true) by decide)] at H; exact H) | rfl
        clear H
        have H := H1
        clear H1
        replace H := Option.bind_eq_some_iff.mp H
        obtain ⟨⟨t338, t339, t340, t341, t342, t345, t346⟩, A70, H⟩ := H
        replace H : (if t346 = 0 then (trufflelaw14_SexpMay.l0 kj2 a0 t345 t341 0 t338 t339 t340 t341 t342) else (if t338 = 0 then (if t339.toList = ([] : List UInt8) then (if (t342.length : Int) = 0 then (if t345 ≥ 0 then (some (decide (t345 ≤ (a0.size : Int)))) else (some false)) else (some false)) else (some false)) else (some false))) = some true := H
        have A7 := Aside0.mk A70
        clear A70
        by_cases c8 : t346 = 0
        · rw [if_pos c8] at H
          have c8b0 : (t346 == 0) = true := beq_iff_eq.mpr c8
          have c8b1 : (t346 != 0) = false := bne_eq_false_iff_eq.mpr c8
          clear c8
          have H' := Aside0.mk H
          clear H
          go_wp2_with (first | ((with_reducible refine gate_callee (f := 24) rfl ?_); refine goesL_ (some 20) rfl rfl Tryd.func24 (by kernel_rfl) rfl #[.string a0] rfl (by (try simp only [List.map_toArray, List.map_cons, List.map_nil]); first | done | rfl | (simp only [List.length_drop, List.length_take]; rfl)) ?_; (with_reducible refine (sexp_Parse.calls a0 t338 t339 t340 t341 t342 t345 t346 _ ?side1 A7.out).mono ?_); (case side1 => exact hG.below (by repeat (first | (with_reducible first | exact HB.out | apply below_alloc | apply pw_below_drewN | apply below_drew1) | exact HB.out))); rintro e w9 ⟨v343, rfl, ho0, hb⟩; refine ⟨_, rfl, ?_⟩; have n0_ := Aside0.mk (Kd.R_lower ho0 (below_size (by repeat (first | (with_reducible first | exact HB.out | apply below_alloc | apply pw_below_drewN | apply below_drew1) | exact HB.out)))); have n1_ := Aside0.mk (below_step (by repeat (first | (with_reducible first | exact HB.out | apply below_alloc | apply pw_below_drewN | apply below_drew1) | exact HB.out)) hb); clear HB; have HO344 := n0_; have HB := n1_; clear n0_ n1_; (try clear hb); (try clear hb2); (try clear hk); (try clear hi); (try clear ho0)) | ((with_reducible refine gate_dst (N := 4) rfl ?_); (try (refine gate_guard (by rfl) ?_; dsimp only)); refine box_event ?hg (N := 4) ?hd (cs := #[.int .i64 0, .string (⟨#[]⟩ : ByteArray), .int .i64 0, .int .i64 0, .slice none 0 0]) (t := 39) ?hr ?_; (case hd => rfl); (case hg => rfl); (case hr => first | (go_simp; done) | (go_simp; rfl)); intro gb347 hg w10 hbox hb; have n0_ := Aside0.mk (Kd.R_below (Kd.R_elderB (by (with_reducible repeat (first | apply Kd.R_alloc | apply Kd.R_drewN | apply Kd.R_drew)); exact HO344.out) gb347 (Nat.le_of_eq hg.symm)) hb); have n1_ := Aside0.mk (below_step (by repeat (first | (with_reducible first | exact HB.out | apply below_alloc | apply pw_below_drewN | apply below_drew1) | exact HB.out)) hb); have n2_ := Aside0.mk (hbox); have n3_ := Aside0.mk ((by rw [hg]; exact (below_size (by repeat (first | (with_reducible first | exact HB.out | apply below_alloc | apply pw_below_drewN | apply below_drew1) | exact HB.out))) : w.heap.size ≤ gb347)); have n4_ := Aside0.mk ((by rw [hg]; exact (below_size (by repeat (first | (with_reducible first | exact HB.out | apply below_alloc | apply pw_below_drewN | apply below_drew1) | exact HB.out))) : w.heap.size ≤ gb347)); clear HO344; clear HB; have HO344 := n0_; have HB := n1_; have BK347 := n2_; have GW347 := n3_; have GE347 := n4_; clear n0_ n1_ n2_ n3_ n4_; clear hb hbox hg; have hcz11_0 : w10.cell? ⟨gb347, 0, none⟩ = some (.int .i64 0) := (blk_cell BK347.out 0).trans rfl; have hcz11_1 : w10.cell? ⟨gb347, 1, none⟩ = some (.string (⟨#[]⟩ : ByteArray)) := (blk_cell BK347.out 1).trans rfl; have hcz11_2 : w10.cell? ⟨gb347, 2, none⟩ = some (.int .i64 0) := (blk_cell BK347.out 2).trans rfl; have hcz11_3 : w10.cell? ⟨gb347, 3, none⟩ = some (.int .i64 0) := (blk_cell BK347.out 3).trans rfl; have hcz11_4 : w10.cell? ⟨gb347, 4, none⟩ = some (.slice none 0 0) := (blk_cell BK347.out 4).trans rfl; have hfz11_0 := blk_frozen BK347.out 0; have hfz11_1 := blk_frozen BK347.out 1; have hfz11_2 := blk_frozen BK347.out 2; have hfz11_3 := blk_frozen BK347.out 3; have hfz11_4 := blk_frozen BK347.out 4; obtain ⟨Ao12, co12, eo12⟩ := Kd.R_slice HO344.out; subst eo12))
          go_loopg [7, 8] kj2 (fun kq v7 v8 w' => ∃ (x7_2 : Int) (x8_2 : Int), v7 = .int .i64 x7_2 ∧ v8 = .int .i64 x8_2 ∧ Aside0 (trufflelaw14_SexpMay.l0 kq a0 t345 x7_2 x8_2 t338 t339 t340 t341 t342 = some true) ∧ Aside0 (kq ≤ kj2) ∧ Aside0 (Kd.R k39 39 w' w.heap.size (fun k_ => k_ ≠ gb347) (.slice Ao12 t342.length co12) t342) ∧ Aside0 (w'.heap[gb347]? = some (.cells #[.int .i64 t338, .string t339, .int .i64 t340, .int .i64 t341, (.slice Ao12 t342.length co12)] 39 (0, 0))) ∧ Aside0 (Below w.heap.size w w'))
          case atStart => exact ⟨(t341), (0), (by first | rfl | (simp; done) | (simp [*]; done)), (by first | rfl | (simp; done) | (simp [*]; done)), H', ⟨Nat.le_refl _⟩, ⟨by (with_reducible repeat (first | apply Kd.R_alloc | apply Kd.R_drewN | apply Kd.R_drew)); exact Kd.R_mono (Kd.R_far (p := ⟨gb347, 4, none⟩) (Kd.R_far (p := ⟨gb347, 3, none⟩) (Kd.R_far (p := ⟨gb347, 2, none⟩) (Kd.R_far (p := ⟨gb347, 1, none⟩) (Kd.R_far (p := ⟨gb347, 0, none⟩) (Kd.R_mono HO344.out (fun k_ hk => (⟨hk, hk.2⟩ : _ ∧ k_ ≠ gb347))) (fun _ hk => hk.2) (.int .i64 t338)) (fun _ hk => hk.2) (.string t339)) (fun _ hk => hk.2) (.int .i64 t340)) (fun _ hk => hk.2) (.int .i64 t341)) (fun _ hk => hk.2) (.slice Ao12 t342.length co12)) (fun _ hk => hk.1.2)⟩, ⟨by (with_reducible repeat (first | refine blk_drewN ?_ _ | refine blk_drew ?_ | refine blk_alloc ?_ _)); refine blk_put (cs := #[.int .i64 t338, .string t339, .int .i64 t340, .int .i64 t341, .slice none 0 0]) ?_ 4 _ rfl; (with_reducible repeat (first | refine blk_drewN ?_ _ | refine blk_drew ?_ | refine blk_alloc ?_ _)); refine blk_put (cs := #[.int .i64 t338, .string t339, .int .i64 t340, .int .i64 0, .slice none 0 0]) ?_ 3 _ rfl; (with_reducible repeat (first | refine blk_drewN ?_ _ | refine blk_drew ?_ | refine blk_alloc ?_ _)); refine blk_put (cs := #[.int .i64 t338, .string t339, .int .i64 0, .int .i64 0, .slice none 0 0]) ?_ 2 _ rfl; (with_reducible repeat (first | refine blk_drewN ?_ _ | refine blk_drew ?_ | refine blk_alloc ?_ _)); refine blk_put (cs := #[.int .i64 t338, .string (⟨#[]⟩ : ByteArray), .int .i64 0, .int .i64 0, .slice none 0 0]) ?_ 1 _ rfl; (with_reducible repeat (first | refine blk_drewN ?_ _ | refine blk_drew ?_ | refine blk_alloc ?_ _)); refine blk_put (cs := #[.int .i64 0, .string (⟨#[]⟩ : ByteArray), .int .i64 0, .int .i64 0, .slice none 0 0]) ?_ 0 _ rfl; (with_reducible repeat (first | refine blk_drewN ?_ _ | refine blk_drew ?_ | refine blk_alloc ?_ _)); exact BK347.out⟩, ⟨by repeat (first | (with_reducible first | exact HB.out | apply below_alloc | apply pw_below_drewN | apply below_drew1 | refine below_set ?_ GE347.out) | exact HB.out)⟩⟩
          case round =>
            clear H'
            try clear c2
            try clear p2
            try clear c5
            try clear c6
            try clear c8
            try clear c8b0
            try clear c8b1
            try clear c9
            try clear hcz11_0
            try clear hcz11_1
            try clear hcz11_2
            try clear hcz11_3
            try clear hcz11_4
            try clear hfz11_0
            try clear hfz11_1
            try clear hfz11_2
            try clear hfz11_3
            try clear hfz11_4
            try clear p2
            obtain ⟨x7_2, x8_2, rfl, rfl, HA, HK2, HO_348004, BK347, HB⟩ := hrel
            cases gk with
            | zero => exact absurd HA.out (by simp [trufflelaw14_SexpMay.l0])
            | succ k2 =>
              have H := HA.out
              clear HA
              simp only [trufflelaw14_SexpMay.l0] at H
              by_cases c13 : x8_2 < (t342.length : Int)
              · rw [if_pos c13] at H
                have c13b0 : decide (x8_2 < (t342.length : Int)) = true := decide_eq_true c13
                clear c13
                by_cases c14 : 0 ≤ x8_2
                · rw [if_pos c14] at H
                  have c14b0 : decide (0 ≤ x8_2) = true := decide_eq_true c14
                  clear c14
                  by_cases c15 : ((rd_T39 t342 x8_2).f3) ≤ x7_2
                  · rw [if_pos c15] at H
                    have c15b0 : decide (((rd_T39 t342 x8_2).f3) ≤ x7_2) = true := decide_eq_true c15
                    clear c15
                    exact absurd (Option.some.inj H) Bool.false_ne_true
                  · rw [if_neg c15] at H
                    have c15b0 : decide (((rd_T39 t342 x8_2).f3) ≤ x7_2) = false := decide_eq_false c15
                    clear c15
                    by_cases c16 : ((rd_T39 t342 x8_2).f3) ≥ (a0.size : Int)
                    · rw [if_pos c16] at H
                      have c16b0 : decide ((a0.size : Int) ≤ ((rd_T39 t342 x8_2).f3)) = true := decide_eq_true c16
                      clear c16
                      exact absurd (Option.some.inj H) Bool.false_ne_true
                    · rw [if_neg c16] at H
                      have c16b0 : decide ((a0.size : Int) ≤ ((rd_T39 t342 x8_2).f3)) = false := decide_eq_false c16
                      clear c16
                      have H' := Aside0.mk H
                      clear H
                      have hcz17_0 : wr.cell? ⟨gb347, 0, none⟩ = some (.int .i64 t338) := (blk_cell BK347.out 0).trans rfl
                      have hcz17_1 : wr.cell? ⟨gb347, 1, none⟩ = some (.string t339) := (blk_cell BK347.out 1).trans rfl
                      have hcz17_2 : wr.cell? ⟨gb347, 2, none⟩ = some (.int .i64 t340) := (blk_cell BK347.out 2).trans rfl
                      have hcz17_3 : wr.cell? ⟨gb347, 3, none⟩ = some (.int .i64 t341) := (blk_cell BK347.out 3).trans rfl
                      have hcz17_4 : wr.cell? ⟨gb347, 4, none⟩ = some (.slice Ao12 t342.length co12) := (blk_cell BK347.out 4).trans rfl
                      have hfz17_0 := blk_frozen BK347.out 0
                      have hfz17_1 := blk_frozen BK347.out 1
                      have hfz17_2 := blk_frozen BK347.out 2
                      have hfz17_3 := blk_frozen BK347.out 3
                      have hfz17_4 := blk_frozen BK347.out 4
                      have p348 : 0 ≤ (x8_2 : Int) := of_decide_eq_true (by first | (with_reducible assumption) | assumption)
                      have q348 : x8_2 < (t342.length : Int) := of_decide_eq_true (by first | (with_reducible assumption) | assumption)
                      obtain ⟨ad348, A348_4, c348_4, e348, hx348_0, hx348_1, hx348_2, hx348_3, hx348_4, hl348_4, hi348_4⟩ := at_T39 (Kd.R_reads' HO_348004.out).2.2 x8_2 p348 q348
                      cases e348
                      obtain ⟨ce348, hce348, hMe348, hcc348⟩ := Kd.R_get HO_348004.out z39 x8_2 p348 (by first | exact q348 | exact of_decide_eq_true (by first | (with_reducible assumption) | assumption) | (have e_ := (Kd.R_reads' HO_348004.out).1; omega))
                      obtain ⟨ve348_4, rfl, ge348_4⟩ := k39_openM hMe348
                      have hv348_4 := hcc348 4 _ rfl
                      rw [add_field _ _ 4 (by omega)] at hv348_4
                      replace hv348_4 := Option.some.inj (hv348_4.symm.trans hx348_4)
                      rw [hv348_4] at ge348_4
                      have HL348_4 := Aside0.mk (show Kd.R k39 39 _ _ _ _ ((rd_T39 t342 x8_2).f4) from ge348_4)
                      clear hv348_4 ge348_4
                      clear hcc348 hce348
                      have HR348_4 := Aside0.mk hi348_4
                      have HC348_4 := Aside0.mk hl348_4
                      clear hi348_4 hl348_4
                      replace p348 := eq_true p348
                      replace q348 := eq_true q348
                      have p349 : 0 ≤ (x8_2 : Int) := of_decide_eq_true (by first | (with_reducible assumption) | assumption)
                      have q349 : x8_2 < (t342.length : Int) := of_decide_eq_true (by first | (with_reducible assumption) | assumption)
                      obtain ⟨ad349, A349_4, c349_4, e349, hx349_0, hx349_1, hx349_2, hx349_3, hx349_4, hl349_4, hi349_4⟩ := at_T39 (Kd.R_reads' HO_348004.out).2.2 x8_2 p349 q349
                      obtain rfl : ad348 = ad349 := (by injection e349)
                      obtain ⟨ce349, hce349, hMe349, hcc349⟩ := Kd.R_get HO_348004.out z39 x8_2 p349 (by first | exact q349 | exact of_decide_eq_true (by first | (with_reducible assumption) | assumption) | (have e_ := (Kd.R_reads' HO_348004.out).1; omega))
                      obtain ⟨ve349_4, rfl, ge349_4⟩ := k39_openM hMe349
                      have hv349_4 := hcc349 4 _ rfl
                      rw [add_field _ _ 4 (by omega)] at hv349_4
                      replace hv349_4 := Option.some.inj (hv349_4.symm.trans hx349_4)
                      rw [hv349_4] at ge349_4
                      have HL349_4 := Aside0.mk (show Kd.R k39 39 _ _ _ _ ((rd_T39 t342 x8_2).f4) from ge349_4)
                      clear hv349_4 ge349_4
                      clear hcc349 hce349
                      have HR349_4 := Aside0.mk hi349_4
                      have HC349_4 := Aside0.mk hl349_4
                      clear hi349_4 hl349_4
                      replace p349 := eq_true p349
                      replace q349 := eq_true q349
                      have ea_ := Option.some.inj (hx348_4.symm.trans hx349_4)
                      injection ea_ with ea_ en_ ec_
                      subst ea_
                      subst ec_
                      clear en_
                      have p350 : 0 ≤ (x8_2 : Int) := of_decide_eq_true (by first | (with_reducible assumption) | assumption)
                      have q350 : x8_2 < (t342.length : Int) := of_decide_eq_true (by first | (with_reducible assumption) | assumption)
                      obtain ⟨ad350, A350_4, c350_4, e350, hx350_0, hx350_1, hx350_2, hx350_3, hx350_4, hl350_4, hi350_4⟩ := at_T39 (Kd.R_reads' HO_348004.out).2.2 x8_2 p350 q350
                      obtain rfl : ad348 = ad350 := (by injection e350)
                      obtain ⟨ce350, hce350, hMe350, hcc350⟩ := Kd.R_get HO_348004.out z39 x8_2 p350 (by first | exact q350 | exact of_decide_eq_true (by first | (with_reducible assumption) | assumption) | (have e_ := (Kd.R_reads' HO_348004.out).1; omega))
                      obtain ⟨ve350_4, rfl, ge350_4⟩ := k39_openM hMe350
                      have hv350_4 := hcc350 4 _ rfl
                      rw [add_field _ _ 4 (by omega)] at hv350_4
                      replace hv350_4 := Option.some.inj (hv350_4.symm.trans hx350_4)
                      rw [hv350_4] at ge350_4
                      have HL350_4 := Aside0.mk (show Kd.R k39 39 _ _ _ _ ((rd_T39 t342 x8_2).f4) from ge350_4)
                      clear hv350_4 ge350_4
                      clear hcc350 hce350
                      have HR350_4 := Aside0.mk hi350_4
                      have HC350_4 := Aside0.mk hl350_4
                      clear hi350_4 hl350_4
                      replace p350 := eq_true p350
                      replace q350 := eq_true q350
                      have ea_ := Option.some.inj (hx348_4.symm.trans hx350_4)
                      injection ea_ with ea_ en_ ec_
                      subst ea_
                      subst ec_
                      clear en_
                      go_wp2
                      go_roundg k2
                      case measure => have := HJ2.out; have := HK2.out; omega
                      case rel => exact ⟨((rd_T39 t342 x8_2).f3), (wrap64 (x8_2 + 1)), (by first | rfl | (simp; done) | (simp [*]; done)), (by first | rfl | (simp; done) | (simp [*]; done)), H', ⟨by have := HJ2.out; have := HK2.out; omega⟩, ⟨by (with_reducible repeat (first | apply Kd.R_alloc | apply Kd.R_drewN | apply Kd.R_drew)); exact HO_348004.out⟩, ⟨by (with_reducible repeat (first | refine blk_drewN ?_ _ | refine blk_drew ?_ | refine blk_alloc ?_ _)); exact BK347.out⟩, ⟨by repeat (first | (with_reducible first | exact HB.out | apply below_alloc | apply pw_below_drewN | apply below_drew1 | refine below_set ?_ GE347.out) | exact HB.out)⟩⟩
                · rw [if_neg c14] at H
                  exact absurd H (by simp)
              · rw [if_neg c13] at H
                have c13b0 : decide (x8_2 < (t342.length : Int)) = false := decide_eq_false c13
                clear c13
                replace H := Option.bind_eq_some_iff.mp H
                obtain ⟨t351, A180, H⟩ := H
                replace H : (if t351 = true then (if t345 = (a0.size : Int) then (if t341 ≥ 0 then (some (decide (t341 < (a0.size : Int)))) else (some false)) else (some false)) else (some false)) = some true := H
                have A18 := Aside0.mk A180
                clear A180
                by_cases c19 : t351 = true
                · subst c19
                  have H1 : (if t345 = (a0.size : Int) then (if t341 ≥ 0 then (some (decide (t341 < (a0.size : Int)))) else (some false)) else (some false)) = some true := by first | (rw [if_pos rfl] at H; exact H) | rfl
                  clear H
                  have H := H1
                  clear H1
                  by_cases c20 : t345 = (a0.size : Int)
                  · rw [if_pos c20] at H
                    have c20b0 : (t345 == (a0.size : Int)) = true := beq_iff_eq.mpr c20
                    have c20b1 : (t345 != (a0.size : Int)) = false := bne_eq_false_iff_eq.mpr c20
                    clear c20
                    by_cases c21 : t341 ≥ 0
                    · rw [if_pos c21] at H
                      have c21b0 : decide (0 ≤ t341) = true := decide_eq_true c21
                      clear c21
                      have hv_ := Option.some.inj H
                      have hcz22_0 : wr.cell? ⟨gb347, 0, none⟩ = some (.int .i64 t338) := (blk_cell BK347.out 0).trans rfl
                      have hcz22_1 : wr.cell? ⟨gb347, 1, none⟩ = some (.string t339) := (blk_cell BK347.out 1).trans rfl
                      have hcz22_2 : wr.cell? ⟨gb347, 2, none⟩ = some (.int .i64 t340) := (blk_cell BK347.out 2).trans rfl
                      have hcz22_3 : wr.cell? ⟨gb347, 3, none⟩ = some (.int .i64 t341) := (blk_cell BK347.out 3).trans rfl
                      have hcz22_4 : wr.cell? ⟨gb347, 4, none⟩ = some (.slice Ao12 t342.length co12) := (blk_cell BK347.out 4).trans rfl
                      have hfz22_0 := blk_frozen BK347.out 0
                      have hfz22_1 := blk_frozen BK347.out 1
                      have hfz22_2 := blk_frozen BK347.out 2
                      have hfz22_3 := blk_frozen BK347.out 3
                      have hfz22_4 := blk_frozen BK347.out 4
                      go_wp2_with (first | ((with_reducible refine gate_callee (f := 25) rfl ?_); refine goesL_ (some 85) rfl rfl Tryd.func25 (by kernel_rfl) rfl #[.agg #[.int .i64 t338, .string t339, .int .i64 t340, .int .i64 t341, .slice Ao12 t342.length co12]] rfl (by (try simp only [List.map_toArray, List.map_cons, List.map_nil]); first | done | rfl | (simp only [List.length_drop, List.length_take]; rfl)) ?_; (with_reducible refine (sexp_May.calls t338 t339 t340 t341 _ _ t342 true _ ?side1 ?side2 ?side3 A18.out).mono ?_); (case side1 => exact hG.below (by repeat (first | (with_reducible first | exact HB.out | apply below_alloc | apply pw_below_drewN | apply below_drew1 | refine below_set ?_ GE347.out) | exact HB.out))); (case side2 => repeat (first | exact (Kd.R_reads' HO_348004.out).2.2 | (with_reducible refine Kd.C_alloc ?_ _) | (with_reducible refine Kd.C_drewN ?_ _) | (with_reducible refine Kd.C_drew ?_))); (case side3 => exact (Kd.R_reads' HO_348004.out).2.1); rintro e w23 ⟨rfl, hb⟩; refine ⟨_, rfl, ?_⟩; have n0_ := Aside0.mk (Kd.R_below (by (with_reducible repeat (first | apply Kd.R_alloc | apply Kd.R_drewN | apply Kd.R_drew)); exact HO_348004.out) hb); have n1_ := Aside0.mk (blk_below (g := gb347) (o := .cells #[.int .i64 t338, .string t339, .int .i64 t340, .int .i64 t341, .slice Ao12 t342.length co12] 39 (0, 0)) (by (with_reducible repeat (first | refine blk_drewN ?_ _ | refine blk_drew ?_ | refine blk_alloc ?_ _)); exact BK347.out) hb); have n2_ := Aside0.mk (below_step (by repeat (first | (with_reducible first | exact HB.out | apply below_alloc | apply pw_below_drewN | apply below_drew1 | refine below_set ?_ GE347.out) | exact HB.out)) hb); clear HO_348004; clear BK347; clear HB; have HO_348004 := n0_; have BK347 := n1_; have HB := n2_; clear n0_ n1_ n2_; (try clear hb); (try clear hb2); (try clear hk); (try clear hi); have hcz24_0 : w23.cell? ⟨gb347, 0, none⟩ = some (.int .i64 t338) := (blk_cell BK347.out 0).trans rfl; have hcz24_1 : w23.cell? ⟨gb347, 1, none⟩ = some (.string t339) := (blk_cell BK347.out 1).trans rfl; have hcz24_2 : w23.cell? ⟨gb347, 2, none⟩ = some (.int .i64 t340) := (blk_cell BK347.out 2).trans rfl; have hcz24_3 : w23.cell? ⟨gb347, 3, none⟩ = some (.int .i64 t341) := (blk_cell BK347.out 3).trans rfl; have hcz24_4 : w23.cell? ⟨gb347, 4, none⟩ = some (.slice Ao12 t342.length co12) := (blk_cell BK347.out 4).trans rfl; have hfz24_0 := blk_frozen BK347.out 0; have hfz24_1 := blk_frozen BK347.out 1; have hfz24_2 := blk_frozen BK347.out 2; have hfz24_3 := blk_frozen BK347.out 3; have hfz24_4 := blk_frozen BK347.out 4))
                      go_ret
                      exact ⟨by first | rfl | (rw [hv_]; done) | (simp [hv_]; done) | (simp [← hv_]; done) | (simp [] <;> rfl) | (simp [*] <;> rfl), by repeat (first | (with_reducible first | exact HB.out | apply below_alloc | apply pw_below_drewN | apply below_drew1 | refine below_set ?_ GE347.out) | exact HB.out)⟩
                    · rw [if_neg c21] at H
                      have c21b0 : decide (0 ≤ t341) = false := decide_eq_false c21
                      clear c21
                      exact absurd (Option.some.inj H) Bool.false_ne_true
                  · rw [if_neg c20] at H
                    have c20b0 : (t345 == (a0.size : Int)) = false := beq_eq_false_iff_ne.mpr c20
                    have c20b1 : (t345 != (a0.size : Int)) = true := bne_iff_ne.mpr c20
                    exact absurd (Option.some.inj H) Bool.false_ne_true
                · replace c19 := Bool.eq_false_iff.mpr c19
                  subst c19
                  have H1 : (some false) = some true := by first | (rw [if_neg (show ¬ (false = true) by decide)] at H; exact H) | rfl
                  clear H
                  have H := H1
                  clear H1
                  exact absurd (Option.some.inj H) Bool.false_ne_true
        · rw [if_neg c8] at H
          have c8b0 : (t346 == 0) = false := beq_eq_false_iff_ne.mpr c8
          have c8b1 : (t346 != 0) = true := bne_iff_ne.mpr c8
          by_cases c25 : t338 = 0
          · rw [if_pos c25] at H
            have c25b0 : (t338 == 0) = true := beq_iff_eq.mpr c25
            have c25b1 : (t338 != 0) = false := bne_eq_false_iff_eq.mpr c25
            clear c25
            by_cases c26 : t339.toList = ([] : List UInt8)
            · rw [if_pos c26] at H
              have c26b0 : (t339.toList == ([] : List UInt8)) = true := beq_iff_eq.mpr c26
              have c26b1 : (t339.toList != ([] : List UInt8)) = false := bne_eq_false_iff_eq.mpr c26
              clear c26
              by_cases c27 : (t342.length : Int) = 0
              · rw [if_pos c27] at H
                have c27b0 : ((t342.length : Int) == 0) = true := beq_iff_eq.mpr c27
                have c27b1 : ((t342.length : Int) != 0) = false := bne_eq_false_iff_eq.mpr c27
                clear c27
                by_cases c28 : t345 ≥ 0
                · rw [if_pos c28] at H
                  have c28b0 : decide (0 ≤ t345) = true := decide_eq_true c28
                  clear c28
                  have hv_ := Option.some.inj H
                  go_wp2_with (first | ((with_reducible refine gate_callee (f := 24) rfl ?_); refine goesL_ (some 20) rfl rfl Tryd.func24 (by kernel_rfl) rfl #[.string a0] rfl (by (try simp only [List.map_toArray, List.map_cons, List.map_nil]); first | done | rfl | (simp only [List.length_drop, List.length_take]; rfl)) ?_; (with_reducible refine (sexp_Parse.calls a0 t338 t339 t340 t341 t342 t345 t346 _ ?side1 A7.out).mono ?_); (case side1 => exact hG.below (by repeat (first | (with_reducible first | exact HB.out | apply below_alloc | apply pw_below_drewN | apply below_drew1) | exact HB.out))); rintro e w29 ⟨v343, rfl, ho0, hb⟩; refine ⟨_, rfl, ?_⟩; have n0_ := Aside0.mk (Kd.R_lower ho0 (below_size (by repeat (first | (with_reducible first | exact HB.out | apply below_alloc | apply pw_below_drewN | apply below_drew1) | exact HB.out)))); have n1_ := Aside0.mk (below_step (by repeat (first | (with_reducible first | exact HB.out | apply below_alloc | apply pw_below_drewN | apply below_drew1) | exact HB.out)) hb); clear HB; have HO344 := n0_; have HB := n1_; clear n0_ n1_; (try clear hb); (try clear hb2); (try clear hk); (try clear hi); (try clear ho0)) | ((with_reducible refine gate_dst (N := 4) rfl ?_); (try (refine gate_guard (by rfl) ?_; dsimp only)); refine box_event ?hg (N := 4) ?hd (cs := #[.int .i64 0, .string (⟨#[]⟩ : ByteArray), .int .i64 0, .int .i64 0, .slice none 0 0]) (t := 39) ?hr ?_; (case hd => rfl); (case hg => rfl); (case hr => first | (go_simp; done) | (go_simp; rfl)); intro gb347 hg w30 hbox hb; have n0_ := Aside0.mk (Kd.R_below (Kd.R_elderB (by (with_reducible repeat (first | apply Kd.R_alloc | apply Kd.R_drewN | apply Kd.R_drew)); exact HO344.out) gb347 (Nat.le_of_eq hg.symm)) hb); have n1_ := Aside0.mk (below_step (by repeat (first | (with_reducible first | exact HB.out | apply below_alloc | apply pw_below_drewN | apply below_drew1) | exact HB.out)) hb); have n2_ := Aside0.mk (hbox); have n3_ := Aside0.mk ((by rw [hg]; exact (below_size (by repeat (first | (with_reducible first | exact HB.out | apply below_alloc | apply pw_below_drewN | apply below_drew1) | exact HB.out))) : w.heap.size ≤ gb347)); have n4_ := Aside0.mk ((by rw [hg]; exact (below_size (by repeat (first | (with_reducible first | exact HB.out | apply below_alloc | apply pw_below_drewN | apply below_drew1) | exact HB.out))) : w.heap.size ≤ gb347)); clear HO344; clear HB; have HO344 := n0_; have HB := n1_; have BK347 := n2_; have GW347 := n3_; have GE347 := n4_; clear n0_ n1_ n2_ n3_ n4_; clear hb hbox hg; have hcz31_0 : w30.cell? ⟨gb347, 0, none⟩ = some (.int .i64 0) := (blk_cell BK347.out 0).trans rfl; have hcz31_1 : w30.cell? ⟨gb347, 1, none⟩ = some (.string (⟨#[]⟩ : ByteArray)) := (blk_cell BK347.out 1).trans rfl; have hcz31_2 : w30.cell? ⟨gb347, 2, none⟩ = some (.int .i64 0) := (blk_cell BK347.out 2).trans rfl; have hcz31_3 : w30.cell? ⟨gb347, 3, none⟩ = some (.int .i64 0) := (blk_cell BK347.out 3).trans rfl; have hcz31_4 : w30.cell? ⟨gb347, 4, none⟩ = some (.slice none 0 0) := (blk_cell BK347.out 4).trans rfl; have hfz31_0 := blk_frozen BK347.out 0; have hfz31_1 := blk_frozen BK347.out 1; have hfz31_2 := blk_frozen BK347.out 2; have hfz31_3 := blk_frozen BK347.out 3; have hfz31_4 := blk_frozen BK347.out 4; obtain ⟨Ao32, co32, eo32⟩ := Kd.R_slice HO344.out; subst eo32))
                  go_ret
                  exact ⟨by first | rfl | (rw [hv_]; done) | (simp [hv_]; done) | (simp [← hv_]; done) | (simp [] <;> rfl) | (simp [*] <;> rfl), by repeat (first | (with_reducible first | exact HB.out | apply below_alloc | apply pw_below_drewN | apply below_drew1 | refine below_set ?_ GE347.out) | exact HB.out)⟩
                · rw [if_neg c28] at H
                  have c28b0 : decide (0 ≤ t345) = false := decide_eq_false c28
                  clear c28
                  exact absurd (Option.some.inj H) Bool.false_ne_true
              · rw [if_neg c27] at H
                have c27b0 : ((t342.length : Int) == 0) = false := beq_eq_false_iff_ne.mpr c27
                have c27b1 : ((t342.length : Int) != 0) = true := bne_iff_ne.mpr c27
                have c27b2 : ¬ (t342 = []) := fun h_ => c27 (by rw [h_]; rfl)
                exact absurd (Option.some.inj H) Bool.false_ne_true
            · rw [if_neg c26] at H
              have c26b0 : (t339.toList == ([] : List UInt8)) = false := beq_eq_false_iff_ne.mpr c26
              have c26b1 : (t339.toList != ([] : List UInt8)) = true := bne_iff_ne.mpr c26
              exact absurd (Option.some.inj H) Bool.false_ne_true
          · rw [if_neg c25] at H
            have c25b0 : (t338 == 0) = false := beq_eq_false_iff_ne.mpr c25
            have c25b1 : (t338 != 0) = true := bne_iff_ne.mpr c25
            exact absurd (Option.some.inj H) Bool.false_ne_true
def trufflelaw14_SexpMay.Pure : Prop := ∀ (a0 : ByteArray), a0.size ≤ 140737488351232 → ∃ k, trufflelaw14_SexpMay.f k a0 = some true
theorem trufflelaw14_SexpMay.walk (P : trufflelaw14_SexpMay.Pure) (a0 : ByteArray) (w : World) (w0 : a0.size ≤ 140737488351232) (hG : GInv w) :
    Calls Tryd.prog 9 #[.string a0] w fun e w' => e = .returned (.bool true) ∧ Below w.heap.size w w' := by
  obtain ⟨k, h⟩ := P a0 w0
  refine (trufflelaw14_SexpMay.calls k a0 w hG h).mono ?_
  rintro e w' ⟨rfl, hd⟩
  exact ⟨rfl, hd⟩
end Go.Proofs.YtngcojabofkbjaaDoor.P
namespace Go.Proofs.YtngcojabofkbjaaDoor.P
open Go.RowKit Go.Proofs.YtngcojabofkbjaaDoorW.PrintWords Go.Proofs.YtngcojabofkbjaaDoorW.PrintLast Go.Proofs.YtngcojabofkbjaaDoorW.PrintMore
set_option linter.unusedVariables false
set_option linter.unusedSimpArgs false
theorem hexI_hexB : ∀ n : Fin 16, hexI (hexB n.val) = n.val := by decide
theorem byte_eq (a b : UInt8) (h : a.toNat = b.toNat) : a = b := UInt8.toNat_inj.mp h
theorem strL_quote (l : List UInt8) (rest : List UInt8) : ∀ f, l.length < f → strL f (l.flatMap quote1 ++ 34 :: rest) = some (l, (l.flatMap quote1).length + 1) := by
  induction l with
  | nil =>
    intro f hf
    obtain ⟨f, rfl⟩ : ∃ m, f = m + 1 := ⟨f - 1, by simp at hf; omega⟩
    simp [strL]
  | cons c r ih =>
    intro f hf
    obtain ⟨f, rfl⟩ : ∃ m, f = m + 1 := ⟨f - 1, by omega⟩
    have hf2 : r.length < f := by simp only [List.length_cons] at hf; omega
    have ih2 := ih f hf2
    have hc := c.toNat_lt
    simp only [List.flatMap_cons, List.append_assoc]
    rw [quote1_nat]
    by_cases h1 : c.toNat = 34 ∨ c.toNat = 92
    · rw [if_pos h1]
      simp only [List.cons_append, List.nil_append, strL]
      rw [if_neg (by decide), if_pos trivial]
      have hm : markL (c :: (r.flatMap quote1 ++ 34 :: rest)) = some (c, 1) := by
        rcases h1 with h | h
        · obtain rfl : c = 34 := byte_eq c 34 h
          simp [markL]
        · obtain rfl : c = 92 := byte_eq c 92 h
          simp [markL]
      rw [hm]
      simp only [List.drop_succ_cons, List.drop_zero, ih2, Option.map_some]
      simp; omega
    · rw [if_neg h1]
      by_cases h2 : c.toNat = 10
      · rw [if_pos h2]
        obtain rfl : c = 10 := byte_eq c 10 h2
        simp only [List.cons_append, List.nil_append, strL]
        rw [if_neg (by decide), if_pos trivial]
        have hm : markL (110 :: (r.flatMap quote1 ++ 34 :: rest)) = some (10, 1) := by simp [markL]
        rw [hm]
        simp only [List.drop_succ_cons, List.drop_zero, ih2, Option.map_some]
        simp; omega
      · rw [if_neg h2]
        by_cases h3 : c.toNat < 32 ∨ 126 < c.toNat
        · rw [if_pos h3]
          simp only [List.cons_append, List.nil_append, strL]
          rw [if_neg (by decide), if_pos trivial]
          have ha := hexI_hexB ⟨c.toNat / 16, by omega⟩
          have hb := hexI_hexB ⟨c.toNat % 16, by omega⟩
          simp only at ha hb
          have hm : markL (120 :: hexB (c.toNat / 16) :: hexB (c.toNat % 16) :: (r.flatMap quote1 ++ 34 :: rest)) = some (c, 3) := by
            simp only [markL]
            rw [if_neg (by decide), if_neg (by decide), if_neg (by decide), if_pos trivial, ha, hb, if_pos ⟨by omega, by omega⟩]
            have : UInt8.ofNat ((c.toNat / 16) * 16 + c.toNat % 16) = c := by
              apply byte_eq
              rw [UInt8.toNat_ofNat', Nat.mod_eq_of_lt (by omega)]
              omega
            simp only [Int.toNat_natCast, this]
          rw [hm]
          simp only [List.drop_succ_cons, List.drop_zero, ih2, Option.map_some]
          simp; omega
        · rw [if_neg h3]
          simp only [List.cons_append, List.nil_append, strL]
          have n1 : ¬ c = 34 := fun e => h1 (.inl (by rw [e]; rfl))
          have n2 : ¬ c = 92 := fun e => h1 (.inr (by rw [e]; rfl))
          have n3 : ¬ c < 32 := by rw [UInt8.lt_iff_toNat_lt]; show ¬ c.toNat < 32; omega
          have n4 : ¬ c = 127 := fun e => h3 (.inr (by rw [e]; decide))
          rw [if_neg n1, if_neg n2, if_neg n3, if_neg n4, ih2]
          simp
end Go.Proofs.YtngcojabofkbjaaDoor.P
namespace Go.Proofs.YtngcojabofkbjaaDoor.P
open Go.RowKit Go.Proofs.YtngcojabofkbjaaDoorW.PrintWords Go.Proofs.YtngcojabofkbjaaDoorW.PrintLast Go.Proofs.YtngcojabofkbjaaDoorW.PrintMore
set_option linter.unusedVariables false
set_option linter.unusedSimpArgs false
def sepL (b : List UInt8) : Prop := ∀ c r, b = c :: r → nameU c = false ∧ numU c = false
theorem takeWhile_sep (p : UInt8 → Bool) (b : List UInt8) (hb : ∀ c r, b = c :: r → p c = false) (l : List UInt8) : (l ++ b).takeWhile p = l.takeWhile p := by
  induction l with
  | nil => cases b with
    | nil => rfl
    | cons c r => simp [hb c r rfl]
  | cons x r ih => simp only [List.cons_append, List.takeWhile_cons, ih]
theorem runN_sep (p : UInt8 → Bool) (b : List UInt8) (hb : ∀ c r, b = c :: r → p c = false) (x : UInt8) (r : List UInt8) : runN p (x :: (r ++ b)) = runN p (x :: r) := by
  simp only [runN]
  rw [takeWhile_sep p b hb]
theorem run_take (p : UInt8 → Bool) (c : UInt8) (r : List UInt8) : (c :: r).take (runN p (c :: r)) = c :: r.takeWhile p := by
  simp only [runN]
  rw [Nat.add_comm, List.take_succ_cons]
  congr 1
  exact (List.prefix_iff_eq_take.1 (List.takeWhile_prefix p)).symm
theorem lex1_sep (a b : List UInt8) (hb : sepL b) (y) (h : lex1 a = some y) : lex1 (a ++ b) = some y := by
  cases a with
  | nil => cases h
  | cons c r =>
    have hn : ∀ c r, b = c :: r → nameU c = false := fun c r e => (hb c r e).1
    have hu : ∀ c r, b = c :: r → numU c = false := fun c r e => (hb c r e).2
    rw [List.cons_append, lex1_cons, run_take, run_take, takeWhile_sep nameU b hn, takeWhile_sep numU b hu, runN_sep nameU b hn, runN_sep numU b hu, ← run_take, ← run_take]
    rw [lex1_cons] at h
    split at h
    · cases h
    · rename_i h4
      rw [if_neg h4]
      split at h
      · rename_i h0; rw [if_pos h0]; exact h
      · rename_i h0
        rw [if_neg h0]
        split at h
        · rename_i h1; rw [if_pos h1]; exact h
        · rename_i h1
          rw [if_neg h1]
          split at h
          · rename_i h2
            rw [if_pos h2]
            obtain ⟨⟨t', n'⟩, h3, h4⟩ := Option.map_eq_some_iff.mp h
            rw [strL_app b _ _ r t' n' h3 (by simp), ← h4]; rfl
          · rename_i h2
            rw [if_neg h2]; exact h
theorem takeWhile_twice (p : UInt8 → Bool) (l : List UInt8) : (l.takeWhile p).takeWhile p = l.takeWhile p := by
  induction l with
  | nil => rfl
  | cons x r ih =>
    by_cases hx : p x = true
    · simp [List.takeWhile_cons, hx, ih]
    · simp [List.takeWhile_cons, hx]
def selfT (kd : Int) (t : List UInt8) (v : Int) : Prop := (kd = 0 ∨ kd = 1) ∧ lex1 t = some (kd, t, v, t.length)
theorem runN_self (p : UInt8 → Bool) (c : UInt8) (r : List UInt8) : runN p (c :: r.takeWhile p) = (c :: r.takeWhile p).length := by
  simp only [runN, takeWhile_twice, List.length_cons]
  omega
theorem lex1_tok (l : List UInt8) (kd : Int) (t : List UInt8) (v : Int) (n : Nat) (h : lex1 l = some (kd, t, v, n)) :
    (selfT kd t v ∧ t.length ≤ l.length) ∨ (kd = 2 ∧ v = 0) ∨ (kd = 3 ∧ v = 0 ∧ t.length = 1) := by
  cases l with
  | nil => cases h
  | cons c r =>
    rw [lex1_cons] at h
    split at h
    · cases h
    · rename_i h4
      split at h
      · rename_i h0
        simp only [Option.some.injEq, Prod.mk.injEq] at h
        obtain ⟨rfl, rfl, rfl, rfl⟩ := h
        refine .inl ⟨⟨.inl rfl, ?_⟩, by rw [List.length_take]; omega⟩
        rw [run_take, lex1_cons, if_neg h4, if_pos h0, runN_self, List.take_length]
      · rename_i h0
        split at h
        · rename_i h1
          split at h
          · rename_i hok
            simp only [Option.some.injEq, Prod.mk.injEq] at h
            obtain ⟨rfl, rfl, rfl, rfl⟩ := h
            refine .inl ⟨⟨.inr rfl, ?_⟩, by rw [List.length_take]; omega⟩
            rw [run_take] at hok ⊢
            rw [lex1_cons, if_neg h4, if_neg h0, if_pos h1, runN_self, List.take_length, if_pos hok]
          · cases h
        · rename_i h1
          split at h
          · obtain ⟨⟨t', n'⟩, h3, h5⟩ := Option.map_eq_some_iff.mp h
            simp only [Prod.mk.injEq] at h5
            obtain ⟨rfl, rfl, rfl, rfl⟩ := h5
            exact .inr (.inl ⟨rfl, rfl⟩)
          · simp only [Option.some.injEq, Prod.mk.injEq] at h
            obtain ⟨rfl, rfl, rfl, rfl⟩ := h
            exact .inr (.inr ⟨rfl, rfl, rfl⟩)
theorem skip_tok (c : UInt8) (r : List UInt8) (h : ofK (c.toNat : Int) ≠ 4) : skipN false (c :: r) = 0 := by
  rw [skipN_f]
  have hb : blankB c = false := by
    unfold blankB
    have e1 : (c == 32) = false := by rw [beq_eq_false_iff_ne]; rintro rfl; exact h (by decide)
    have e2 : (c == 9) = false := by rw [beq_eq_false_iff_ne]; rintro rfl; exact h (by decide)
    have e3 : (c == 10) = false := by rw [beq_eq_false_iff_ne]; rintro rfl; exact h (by decide)
    have e4 : (c == 13) = false := by rw [beq_eq_false_iff_ne]; rintro rfl; exact h (by decide)
    rw [e1, e2, e3, e4]; rfl
  rw [hb, if_neg (by simp), if_neg]
  rintro ⟨rfl, _⟩
  exact h (by decide)
theorem lex1_first (a : List UInt8) (y) (h : lex1 a = some y) : ∃ c r, a = c :: r ∧ ofK (c.toNat : Int) ≠ 4 := by
  cases a with
  | nil => cases h
  | cons c r =>
    refine ⟨c, r, rfl, fun e => ?_⟩
    rw [lex1_cons, if_pos e] at h
    cases h
theorem scan_one (m p : Nat) (a b : List UInt8) (kd : Int) (t : List UInt8) (v : Int) (n : Nat) (h : lex1 a = some (kd, t, v, n)) (hn : n = a.length) (hb : sepL b) :
    scan m p (a ++ b) = if m = 0 then .inr (p, 2) else preE [⟨kd, ⟨t.toArray⟩, v, p⟩] (scan (m - 1) (p + a.length) b) := by
  obtain ⟨c, r, rfl, hc⟩ := lex1_first a _ h
  have h2 := lex1_sep (c :: r) b hb _ h
  unfold scan
  rw [List.cons_append, skip_tok c (r ++ b) hc, Nat.add_zero, List.drop_zero, lx_cons]
  rw [List.cons_append] at h2
  rw [h2]
  simp only
  rw [← List.cons_append, hn, List.drop_left]
  rfl
theorem scan_nil (m p : Nat) : scan m p [] = .inl [] := rfl
theorem scan_cases (m p : Nat) (a : List UInt8) (ts : List TokS) (h : scan m p a = .inl ts) : ts = [] ∨ ∃ (k : Nat) (kd : Int) (t : List UInt8) (v : Int) (n : Nat) (us : List TokS),
    lex1 (a.drop k) = some (kd, t, v, n) ∧ 1 ≤ n ∧ k + n ≤ a.length ∧ 0 < m ∧ scan (m - 1) (p + k + n) (a.drop (k + n)) = .inl us ∧ ts = ⟨kd, ⟨t.toArray⟩, v, ((p + k : Nat) : Int)⟩ :: us := by
  unfold scan at h
  have hk := skipN_le false a
  generalize skipN false a = k at h hk
  cases hl : a.drop k with
  | nil => rw [hl, lx_nil] at h; simp only [Sum.inl.injEq] at h; exact .inl h.symm
  | cons c r =>
    have hz := congrArg List.length hl
    rw [List.length_drop, List.length_cons] at hz
    rw [hl, lx_cons] at h
    cases hx : lex1 (c :: r) with
    | none => rw [hx] at h; cases h
    | some y =>
      obtain ⟨kd, t, v, n⟩ := y
      obtain ⟨n1, n2⟩ := lex1_le _ _ _ _ _ hx
      rw [List.length_cons] at n2
      rw [hx] at h
      simp only at h
      split at h
      · cases h
      · rename_i hm
        cases hs : scan (m - 1) (p + k + n) ((c :: r).drop n) with
        | inr e => rw [hs] at h; cases h
        | inl us =>
          rw [hs] at h
          simp only [preE, Sum.inl.injEq] at h
          refine .inr ⟨k, kd, t, v, n, us, by rw [hl]; exact hx, n1, by omega, by omega, ?_, ?_⟩
          · rw [← List.drop_drop, hl]; exact hs
          · rw [← h]; rfl
def tokOk (t : TokS) : Prop := selfT t.f0 (bl t.f1) t.f2 ∨ (t.f0 = 2 ∧ t.f2 = 0) ∨ (t.f0 = 3 ∧ t.f2 = 0 ∧ (bl t.f1).length = 1)
def incT : Int → List TokS → Prop
  | _, [] => True
  | b, t :: ts => b ≤ t.f3 ∧ incT (t.f3 + 1) ts
theorem incT_mono : ∀ (ts : List TokS) (b c : Int), c ≤ b → incT b ts → incT c ts
  | [], _, _, _, _ => trivial
  | _ :: _, _, _, h, ⟨h1, h2⟩ => ⟨by omega, h2⟩
theorem scan_facts : ∀ (d m p : Nat) (a : List UInt8) (ts : List TokS), a.length ≤ d → scan m p a = .inl ts →
    (∀ t ∈ ts, tokOk t ∧ (selfT t.f0 (bl t.f1) t.f2 → t.f1.size ≤ a.length) ∧ t.f3 < p + a.length) ∧ incT p ts := by
  intro d
  induction d with
  | zero =>
    intro m p a ts hd h
    obtain rfl : a = [] := List.length_eq_zero_iff.mp (by omega)
    rw [scan_nil] at h
    injection h with h
    subst h
    exact ⟨fun t ht => (by cases ht), trivial⟩
  | succ d ih =>
    intro m p a ts hd h
    rcases scan_cases m p a ts h with rfl | ⟨k, kd, t, v, n, us, hx, hn, hk, hm, hs, rfl⟩
    · exact ⟨fun t ht => (by cases ht), trivial⟩
    · obtain ⟨g1, g2⟩ := ih _ _ _ _ (by rw [List.length_drop]; omega) hs
      refine ⟨fun u hu => ?_, ?_⟩
      · rcases List.mem_cons.1 hu with rfl | hu
        · have hl := lex1_tok _ _ _ _ _ hx
          refine ⟨Or.elim hl (fun hl => .inl hl.1) (fun hl => .inr hl), fun hself => ?_, by show ((p + k : Nat) : Int) < _; omega⟩
          · show (⟨t.toArray⟩ : ByteArray).size ≤ a.length
            rw [← bl_length]
            show t.length ≤ a.length
            have h9 : kd = 0 ∨ kd = 1 := hself.1
            rcases hl with hl | hl | hl
            · have := hl.2; rw [List.length_drop] at this; omega
            · exfalso; have := hl.1; omega
            · exfalso; have := hl.1; omega
        · obtain ⟨q1, q2, q3⟩ := g1 u hu
          rw [List.length_drop] at q2 q3
          exact ⟨q1, fun hh => by have := q2 hh; omega, by omega⟩
      · refine ⟨by show (p : Int) ≤ ((p + k : Nat) : Int); omega, incT_mono us _ _ ?_ g2⟩
        show ((p + k : Nat) : Int) + 1 ≤ ((p + k + n : Nat) : Int)
        omega
end Go.Proofs.YtngcojabofkbjaaDoor.P
namespace Go.Proofs.YtngcojabofkbjaaDoor.P
open Go.RowKit Go.Proofs.YtngcojabofkbjaaDoorW.PrintWords Go.Proofs.YtngcojabofkbjaaDoorW.PrintLast Go.Proofs.YtngcojabofkbjaaDoorW.PrintMore
set_option linter.unusedVariables false
set_option linter.unusedSimpArgs false
abbrev Bare := Int × List UInt8 × Int
def bareT (t : TokS) : Bare := (t.f0, bl t.f1, t.f2)
mutual
def toksB : NodeS → List Bare
  | ⟨k, t, n, _, l⟩ => if k = 4 then (3, [40], 0) :: (toksBL l ++ [(3, [41], 0)]) else [(k, bl t, n)]
def toksBL : List NodeS → List Bare
  | [] => []
  | x :: r => toksB x ++ toksBL r
end
mutual
def leafB : NodeS → Bool
  | ⟨k, t, n, _, l⟩ => if k = 4 then n == 0 && (t.toList == [] && leafL l) else decide (l.length = 0) && (if k = 0 ∨ k = 1 then aloneB k t n else if k = 2 then n == 0 else if k = 3 then n == 0 && t.toList == [46] else false)
def leafL : List NodeS → Bool
  | [] => true
  | x :: r => leafB x && leafL r
end
mutual
def hgt : NodeS → Nat
  | ⟨k, _, _, _, l⟩ => if k = 4 then 1 + hgtL l else 0
def hgtL : List NodeS → Nat
  | [] => 0
  | x :: r => max (hgt x) (hgtL r)
end
theorem leafL_all (l : List NodeS) : leafL l = true ↔ ∀ x ∈ l, leafB x = true := by
  induction l with
  | nil => simp [leafL]
  | cons x r ih => rw [leafL, Bool.and_eq_true, ih]; simp
theorem hgtL_le (l : List NodeS) (m : Nat) : hgtL l ≤ m ↔ ∀ x ∈ l, hgt x ≤ m := by
  induction l with
  | nil => simp [hgtL]
  | cons x r ih => rw [hgtL, Nat.max_le, ih]; simp
theorem toList_nil (t : ByteArray) : (t.toList == []) = true ↔ bl t = [] := by rw [beq_iff_eq, toList_bl]
theorem may_iff : ∀ (N : Nat) (x : NodeS) (d : Nat), SizeOf.sizeOf x ≤ N → d ≤ 16 → (mayB x (d : Int) = true ↔ leafB x = true ∧ (hgt x = 0 ∨ d + hgt x ≤ 16)) := by
  intro N
  induction N with
  | zero => intro x d hN hd; obtain ⟨k, t, n, a, l⟩ := x; simp only [S39.mk.sizeOf_spec] at hN; omega
  | succ N ih =>
    intro x d hN hd
    obtain ⟨k, t, n, a, l⟩ := x
    by_cases h4 : k = 4
    · subst h4
      rw [mayB, leafB, hgt, if_neg (by decide), if_neg (by decide), if_neg (by decide), if_pos rfl, if_pos rfl, if_pos rfl]
      simp only [Bool.and_eq_true, decide_eq_true_eq]
      rw [leafL_all, mayL_all, List.all_eq_true]
      by_cases h16 : d < 16
      · have hw : wrap64 ((d : Int) + 1) = ((d + 1 : Nat) : Int) := by rw [wrap_small _ (by omega) (by omega)]; omega
        rw [hw]
        have hm : ∀ y ∈ l, (mayB y ((d + 1 : Nat) : Int) = true ↔ leafB y = true ∧ (hgt y = 0 ∨ d + 1 + hgt y ≤ 16)) := fun y hy => ih y (d + 1) (by have := size_in ⟨4, t, n, a, l⟩ y hy; omega) (by omega)
        have hh := hgtL_le l (16 - (d + 1))
        constructor
        · rintro ⟨h1, h2, h3, h5⟩
          refine ⟨⟨h2, h3, fun y hy => ((hm y hy).1 (h1 y hy)).1⟩, .inr ?_⟩
          have := hh.2 (fun y hy => by rcases ((hm y hy).1 (h1 y hy)).2 with h6 | h6 <;> omega)
          omega
        · rintro ⟨⟨h2, h3, h1⟩, h5⟩
          refine ⟨fun y hy => (hm y hy).2 ⟨h1 y hy, ?_⟩, h2, h3, by omega⟩
          have := hh.1 (by omega) y hy
          omega
      · constructor
        · rintro ⟨h1, h2, h3, h5⟩; omega
        · rintro ⟨_, h5⟩; omega
    · rw [mayB, leafB, hgt, if_neg h4, if_neg h4, if_neg h4]
      by_cases h01 : k = 0 ∨ k = 1
      · rw [if_pos h01, if_pos h01]; simp
      · rw [if_neg h01, if_neg h01]
        by_cases h2 : k = 2
        · rw [if_pos h2, if_pos h2]; simp
        · rw [if_neg h2, if_neg h2]
          by_cases h3 : k = 3
          · rw [if_pos h3, if_pos h3]; simp
          · rw [if_neg h3, if_neg h3]; simp
theorem may_top (x : NodeS) : mayB x 0 = true ↔ leafB x = true ∧ hgt x ≤ 16 := by
  rw [show (0 : Int) = ((0 : Nat) : Int) from rfl, may_iff _ x 0 (Nat.le_refl _) (by omega)]
  constructor
  · rintro ⟨h1, h2⟩; exact ⟨h1, by omega⟩
  · rintro ⟨h1, h2⟩; exact ⟨h1, by omega⟩
theorem allF_big' (s : ByteArray) (h : 5000 < s.size) : (allF s).2.2 = 2 := by
  unfold allF
  rw [if_pos (by omega)]
theorem alone_iff (k : Int) (t : ByteArray) (n : Int) : aloneB k t n = true ↔ (t.size ≤ 5000 ∧ scan 1000 0 (bl t) = .inl [⟨k, t, n, 0⟩]) := by
  unfold aloneB sexp_alone.f
  by_cases hs : t.size ≤ 5000
  · rw [all_small t hs]
    cases hx : scan 1000 0 (bl t) with
    | inr e =>
      obtain ⟨p, e⟩ := e
      have := scan_err _ _ _ _ _ _ (Nat.le_refl _) hx
      simp only [Option.bind_some, endL]
      rw [if_neg (by omega)]
      simp
    | inl ts =>
      simp only [Option.bind_some, endL, List.nil_append]
      rw [if_pos trivial]
      match ts with
      | [] => simp
      | [u] =>
        rw [if_pos (by simp), if_pos (by simp)]
        simp only [rd_T29, Int.toNat_zero, List.getD_cons_zero, Option.getD_some, Bool.and_eq_true, beq_iff_eq, toList_bl, hs, true_and, Sum.inl.injEq, List.cons.injEq, and_true]
        obtain ⟨f0, f1, f2, f3⟩ := u
        simp only [S29.mk.injEq]
        constructor
        · rintro ⟨h1, h2, h3, h4⟩; exact ⟨h1, eq_of_bl h2, h3, h4⟩
        · rintro ⟨h1, h2, h3, h4⟩; exact ⟨h1, by rw [h2], h3, h4⟩
      | u :: v :: r => rw [if_neg (by simp; omega)]; simp
  · have hb := allF_big' t (by omega)
    unfold token_All.f
    simp only [Option.bind_some]
    rw [if_neg (by rw [hb]; decide)]
    simp [hs]
theorem alone_self (k : Int) (t : ByteArray) (n : Int) (hk : k = 0 ∨ k = 1) : aloneB k t n = true ↔ (t.size ≤ 5000 ∧ selfT k (bl t) n) := by
  rw [alone_iff]
  constructor
  · rintro ⟨h1, h2⟩
    refine ⟨h1, hk, ?_⟩
    rcases scan_cases _ _ _ _ h2 with h | ⟨j, kd, t', v, m, us, hx, hn, hk', hm, hs, h⟩
    · cases h
    · simp only [List.cons.injEq, S29.mk.injEq] at h
      obtain ⟨⟨rfl, h3, rfl, h5⟩, h6⟩ := h
      have hj : j = 0 := by omega
      subst hj
      rw [List.drop_zero] at hx
      have h7 : bl t = t' := by rw [h3]
      rcases lex1_tok _ _ _ _ _ hx with h8 | h8 | h8
      · rw [h7]; exact h8.1.2
      · omega
      · omega
  · rintro ⟨h1, _, h2⟩
    refine ⟨h1, ?_⟩
    have := scan_one 1000 0 (bl t) [] k (bl t) n _ h2 rfl (fun c r h => by cases h)
    rw [List.append_nil, if_neg (by decide), scan_nil] at this
    rw [this]
    simp only [preE, List.append_nil, Int.natCast_zero]
theorem lex1_quote (l : List UInt8) : lex1 (quoteL l) = some (2, l, 0, (quoteL l).length) := by
  have hs := strL_quote l [] ((l.flatMap quote1 ++ [34]).length + 1) (by
    have : l.length ≤ (l.flatMap quote1).length := by
      induction l with
      | nil => simp
      | cons c r ih =>
        have h1 : 1 ≤ (quote1 c).length := by rw [quote1_nat]; split; simp; split; simp; split <;> simp
        rw [List.flatMap_cons, List.length_append, List.length_cons]; omega
    rw [List.length_append]; omega)
  have h34 : ofK ((34 : UInt8).toNat : Int) = 2 := by decide
  unfold quoteL
  rw [lex1_cons, h34, if_neg (by decide), if_neg (by decide), if_neg (by decide), if_pos rfl, hs]
  simp
theorem lex1_leaf (k : Int) (t : ByteArray) (n a : Int) (l : List NodeS) (h4 : k ≠ 4) (h : leafB ⟨k, t, n, a, l⟩ = true) : l = [] ∧ lex1 (textN ⟨k, t, n, a, l⟩) = some (k, bl t, n, (textN ⟨k, t, n, a, l⟩).length) := by
  rw [leafB, if_neg h4, Bool.and_eq_true, decide_eq_true_eq] at h
  obtain ⟨h0, h⟩ := h
  refine ⟨List.length_eq_zero_iff.1 h0, ?_⟩
  rw [textN]
  by_cases h01 : k = 0 ∨ k = 1
  · rw [if_pos h01, alone_self k t n h01] at h
    rw [if_neg (by omega), if_neg h4]
    exact h.2.2
  · rw [if_neg h01] at h
    by_cases h2 : k = 2
    · rw [if_pos h2, beq_iff_eq] at h
      rw [if_pos h2, lex1_quote, h2, h]
    · rw [if_neg h2] at h
      by_cases h3 : k = 3
      · rw [if_pos h3, Bool.and_eq_true, beq_iff_eq, beq_iff_eq, toList_bl] at h
        rw [if_neg h2, if_neg h4, h.2, h3, h.1]
        first | done | decide
      · rw [if_neg h3] at h; cases h
theorem sep_nil : sepL [] := fun c r h => by cases h
theorem sep_cons (c : UInt8) (r : List UInt8) (h1 : nameU c = false) (h2 : numU c = false) : sepL (c :: r) := fun d s h => by injection h with h3 _; subst h3; exact ⟨h1, h2⟩
end Go.Proofs.YtngcojabofkbjaaDoor.P
namespace Go.Proofs.YtngcojabofkbjaaDoor.P
open Go.RowKit Go.Proofs.YtngcojabofkbjaaDoorW.PrintWords Go.Proofs.YtngcojabofkbjaaDoorW.PrintLast Go.Proofs.YtngcojabofkbjaaDoorW.PrintMore
set_option linter.unusedVariables false
set_option linter.unusedSimpArgs false
theorem doesI_bare (t : TokS) : doesI t = if t.f0 ≠ 3 ∨ bl t.f1 = [46] then 0 else if bl t.f1 = [40] then 1 else if bl t.f1 = [41] then 2 else 3 := by
  unfold doesI
  rw [toList_bl]
theorem does_open (t : TokS) (h : bareT t = (3, [40], 0)) : doesI t = 1 := by
  simp only [bareT, Prod.mk.injEq] at h
  rw [doesI_bare, h.1, h.2.1, if_neg (by decide), if_pos rfl]
theorem does_shut (t : TokS) (h : bareT t = (3, [41], 0)) : doesI t = 2 := by
  simp only [bareT, Prod.mk.injEq] at h
  rw [doesI_bare, h.1, h.2.1, if_neg (by decide), if_neg (by decide), if_pos rfl]
theorem top_snoc (st : List NodeS) (n : NodeS) : topN (st ++ [n]) = n := by
  unfold topN
  simp
theorem add_snoc (st : List NodeS) (n x : NodeS) : addTop (st ++ [n]) x = st ++ [⟨n.f0, n.f1, n.f2, n.f3, n.f4 ++ [x]⟩] := by
  unfold addTop
  rw [top_snoc]
  simp
theorem snoc_of (st : List NodeS) (h : 0 < st.length) : ∃ s n, st = s ++ [n] := by
  have hn : st ≠ [] := by intro e; rw [e] at h; simp at h
  exact ⟨st.dropLast, st.getLast hn, (List.dropLast_concat_getLast hn).symm⟩
theorem node_eta (n : NodeS) (l : List NodeS) (h : n.f4 = l) : (⟨n.f0, n.f1, n.f2, n.f3, l⟩ : NodeS) = n := by
  obtain ⟨a, b, c, d, e⟩ := n
  simp only at h
  rw [h]
def incF : Int → List NodeS → Int → Prop
  | last, [], b => last < b
  | last, y :: r, b => last < y.f3 ∧ incF y.f3 r b
theorem incF_mono : ∀ (l : List NodeS) (last b c : Int), b ≤ c → incF last l b → incF last l c
  | [], last, b, c, h, h2 => by simp only [incF] at h2 ⊢; omega
  | _ :: r, _, b, c, h, ⟨h1, h2⟩ => ⟨h1, incF_mono r _ b c h h2⟩
theorem incF_snoc : ∀ (l : List NodeS) (last b : Int) (y : NodeS), incF last l y.f3 → y.f3 < b → incF last (l ++ [y]) b
  | [], last, b, y, h, h2 => ⟨h, h2⟩
  | z :: r, last, b, y, ⟨h1, h2⟩, h3 => ⟨h1, incF_snoc r _ b y h2 h3⟩
def goodY (S : Int) (i : Nat) (y : NodeS) : Prop := mayB y (i : Int) = true ∧ incF y.f3 y.f4 S ∧ 0 ≤ y.f3
def nodG (S : Int) (i : Nat) (n : NodeS) (b : Int) : Prop := (∀ y ∈ n.f4, goodY S i y) ∧ (0 < i → n.f0 = 4 ∧ n.f1 = ⟨#[]⟩ ∧ n.f2 = 0 ∧ 0 ≤ n.f3 ∧ incF n.f3 n.f4 b)
def stG (S : Int) : Int → Nat → List NodeS → Prop
  | _, _, [] => True
  | b, i, [n] => nodG S i n b
  | b, i, n :: m :: r => nodG S i n m.f3 ∧ stG S b (i + 1) (m :: r)
theorem nodG_mono (S : Int) (i : Nat) (n : NodeS) (b c : Int) (h : b ≤ c) (hn : nodG S i n b) : nodG S i n c :=
  ⟨hn.1, fun hi => ⟨(hn.2 hi).1, (hn.2 hi).2.1, (hn.2 hi).2.2.1, (hn.2 hi).2.2.2.1, incF_mono _ _ _ _ h (hn.2 hi).2.2.2.2⟩⟩
theorem stG_mono (S : Int) : ∀ (st : List NodeS) (i : Nat) (b c : Int), b ≤ c → stG S b i st → stG S c i st
  | [], _, _, _, _, _ => trivial
  | [n], i, b, c, h, h2 => nodG_mono S i n b c h h2
  | _ :: m :: r, i, b, c, h, ⟨h1, h2⟩ => ⟨h1, stG_mono S (m :: r) (i + 1) b c h h2⟩
theorem stG_snoc (S b : Int) (n : NodeS) : ∀ (st : List NodeS) (i : Nat), stG S b i (st ++ [n]) ↔ stG S n.f3 i st ∧ nodG S (i + st.length) n b
  | [], i => by simp [stG]
  | [m], i => by simp [stG]
  | k :: m :: r, i => by
    have := stG_snoc S b n (m :: r) (i + 1)
    simp only [List.cons_append, stG] at this ⊢
    rw [this, and_assoc]
    simp only [List.length_cons]
    rw [show i + 1 + (r.length + 1) = i + (r.length + 1 + 1) from by omega]
def flatS : List NodeS → List Bare
  | [] => []
  | [n] => toksBL n.f4
  | n :: m :: r => toksBL n.f4 ++ (3, [40], 0) :: flatS (m :: r)
theorem flatS_snoc (n : NodeS) : ∀ (st : List NodeS), 0 < st.length → flatS (st ++ [n]) = flatS st ++ (3, [40], 0) :: toksBL n.f4
  | [], h => by simp at h
  | [m], _ => by simp [flatS]
  | k :: m :: r, _ => by
    have := flatS_snoc n (m :: r) (by simp)
    simp only [List.cons_append, flatS] at this ⊢
    rw [this]; simp
theorem toksBL_snoc (l : List NodeS) (x : NodeS) : toksBL (l ++ [x]) = toksBL l ++ toksB x := by
  induction l with
  | nil => simp [toksBL]
  | cons y r ih => simp only [List.cons_append, toksBL, ih, List.append_assoc]
theorem flatS_add (st : List NodeS) (x : NodeS) (h : 0 < st.length) : flatS (addTop st x) = flatS st ++ toksB x := by
  obtain ⟨s, n, rfl⟩ := snoc_of st h
  rw [add_snoc]
  cases s with
  | nil => simp [flatS, toksBL_snoc]
  | cons a r => rw [flatS_snoc _ _ (by simp), flatS_snoc _ _ (by simp), toksBL_snoc]; simp
def SoundR (S : Int) (st : List NodeS) (ts : List TokS) : List NodeS ⊕ (Int × Int) → Prop
  | .inl st' => 0 < st'.length ∧ (st'.getD 0 zN).f4.length ≤ 1 ∧ stG S S 0 st' ∧ flatS st' = flatS st ++ ts.map bareT
  | .inr (p, e) => (e = 4 ∨ e = 2) ∧ 0 ≤ p ∧ p < S
theorem atom_may (t : TokS) (i : Nat) (hok : tokOk t) (hsz : selfT t.f0 (bl t.f1) t.f2 → t.f1.size ≤ 5000) (hd : doesI t = 0) : mayB ⟨t.f0, t.f1, t.f2, t.f3, []⟩ (i : Int) = true ∧ t.f0 ≠ 4 := by
  rcases hok with h | h | h
  · refine ⟨?_, by have := h.1; omega⟩
    rw [mayB, if_pos h.1, Bool.and_eq_true]
    exact ⟨by simp, (alone_self _ _ _ h.1).2 ⟨hsz h, h⟩⟩
  · refine ⟨?_, by omega⟩
    rw [mayB, if_neg (by omega), if_pos h.1, h.2]
    simp
  · refine ⟨?_, by omega⟩
    have h46 : bl t.f1 = [46] := by
      rw [doesI_bare, h.1] at hd
      by_cases h5 : bl t.f1 = [46]
      · exact h5
      · rw [if_neg (by simp [h5])] at hd
        split at hd
        · cases hd
        · split at hd <;> cases hd
    rw [mayB, if_neg (by omega), if_neg (by omega), if_pos h.1, h.2.1, toList_bl, h46]
    simp
theorem addTop_pos (st : List NodeS) (x : NodeS) (h : 0 < st.length) : 0 < (addTop st x).length := by rw [addTop_len]; exact h
theorem stG_add (S b c : Int) (st : List NodeS) (y : NodeS) (h : stG S b 0 st) (hs : 0 < st.length) (hy : goodY S (st.length - 1) y) (hb : b ≤ y.f3) (hc : y.f3 < c) : stG S c 0 (addTop st y) := by
  obtain ⟨s, n, rfl⟩ := snoc_of st hs
  rw [add_snoc]
  rw [stG_snoc] at h ⊢
  simp only [List.length_append, List.length_cons, List.length_nil, Nat.zero_add, Nat.add_sub_cancel] at hy h ⊢
  refine ⟨h.1, fun z hz => ?_, fun hi => ?_⟩
  · rcases List.mem_append.1 hz with hz | hz
    · exact h.2.1 z hz
    · rw [List.mem_singleton.1 hz]; exact hy
  · obtain ⟨q1, q2, q3, q4, q5⟩ := h.2.2 hi
    exact ⟨q1, q2, q3, q4, incF_snoc _ _ _ _ (incF_mono _ _ _ _ hb q5) hc⟩
def rootOk (st : List NodeS) : Prop := (st.getD 0 zN).f4.length ≤ 1 ∧ (1 < st.length → (st.getD 0 zN).f4.length = 0)
theorem root_top (st : List NodeS) (h : st.length = 1) : topN st = st.getD 0 zN := by unfold topN; rw [h]
theorem root_add (st : List NodeS) (x : NodeS) (h : rootOk st) (hs : 0 < st.length) (h1 : st.length = 1 → (st.getD 0 zN).f4.length = 0) : rootOk (addTop st x) := by
  obtain ⟨s, n, rfl⟩ := snoc_of st hs
  rw [add_snoc]
  cases s with
  | nil =>
    have := h1 rfl
    simp only [List.nil_append, List.getD_cons_zero] at this
    refine ⟨?_, fun h2 => by simp at h2⟩
    simp only [List.nil_append, List.getD_cons_zero, List.length_append, List.length_cons, List.length_nil]
    omega
  | cons a r =>
    simp only [rootOk, List.cons_append, List.getD_cons_zero] at h ⊢
    exact ⟨h.1, fun _ => h.2 (by simp)⟩
theorem parse_sound (S : Int) : ∀ (ts : List TokS) (st : List NodeS) (b : Int), incT b ts → 0 ≤ b → b ≤ S → (∀ t ∈ ts, tokOk t ∧ (selfT t.f0 (bl t.f1) t.f2 → t.f1.size ≤ 5000) ∧ t.f3 < S) → 0 < st.length → st.length ≤ 17 → rootOk st → stG S b 0 st → SoundR S st ts (parseL ts st)
  | [], st, b, _, _, hbS, _, hs, _, hf, hg => by
    rw [parseL]
    exact ⟨hs, hf.1, stG_mono S st 0 b S hbS hg, by simp⟩
  | t :: ts, st, b, ⟨hi1, hi2⟩, hb0, hbS, hts, hs, hs2, hf, hg => by
    obtain ⟨hok, hsz, hlt⟩ := hts t (by simp)
    have hts2 : ∀ u ∈ ts, tokOk u ∧ (selfT u.f0 (bl u.f1) u.f2 → u.f1.size ≤ 5000) ∧ u.f3 < S := fun u hu => hts u (by simp [hu])
    have herr : ∀ e, e = 4 ∨ e = 2 → SoundR S st (t :: ts) (.inr (t.f3, e)) := fun e he => ⟨he, by omega, hlt⟩
    have hstep : ∀ (st2 : List NodeS), 0 < st2.length → st2.length ≤ 17 → rootOk st2 → stG S (t.f3 + 1) 0 st2 → flatS st2 = flatS st ++ [bareT t] → SoundR S st (t :: ts) (parseL ts st2) := by
      intro st2 g1 g2 g3 g4 g5
      have := parse_sound S ts st2 (t.f3 + 1) hi2 (by omega) (by omega) hts2 g1 g2 g3 g4
      cases hr : parseL ts st2 with
      | inr e => rw [hr] at this; exact this
      | inl st3 =>
        rw [hr] at this
        refine ⟨this.1, this.2.1, this.2.2.1, ?_⟩
        rw [this.2.2.2, g5, List.map_cons]; simp
    rw [parseL]
    by_cases c1 : st.length = 1 ∧ (topN st).f4.length = 1
    · rw [if_pos c1]; exact herr 4 (.inl rfl)
    · rw [if_neg c1]
      by_cases c2 : doesI t = 3
      · rw [if_pos c2]; exact herr 4 (.inl rfl)
      · rw [if_neg c2]
        by_cases c3 : doesI t = 2 ∧ st.length = 1
        · rw [if_pos c3]; exact herr 4 (.inl rfl)
        · rw [if_neg c3]
          by_cases c4 : doesI t = 1 ∧ st.length > 16
          · rw [if_pos c4]; exact herr 2 (.inr rfl)
          · rw [if_neg c4]
            have hsig : (doesI t = 1 → bareT t = (3, [40], 0)) ∧ (doesI t = 2 → bareT t = (3, [41], 0)) := by
              rw [doesI_bare]
              rcases hok with h | h | h
              · rw [if_pos (.inl (by have := h.1; omega))]; exact ⟨fun h => (by cases h), fun h => (by cases h)⟩
              · rw [if_pos (.inl (by omega))]; exact ⟨fun h => (by cases h), fun h => (by cases h)⟩
              · refine ⟨fun h1 => ?_, fun h1 => ?_⟩
                · by_cases h5 : bl t.f1 = [40]
                  · simp only [bareT, h.1, h.2.1, h5]
                  · exfalso; revert h1; repeat' split
                    all_goals first | (intro h1; cases h1; done) | (intro _; exact absurd (by assumption) h5)
                · by_cases h5 : bl t.f1 = [41]
                  · simp only [bareT, h.1, h.2.1, h5]
                  · exfalso; revert h1; repeat' split
                    all_goals first | (intro h1; cases h1; done) | (intro _; exact absurd (by assumption) h5)
            have hroot : (st.getD 0 zN).f4.length = 0 := by
              by_cases h1 : st.length = 1
              · have h8 := hf.1
                have h9 : ¬ (topN st).f4.length = 1 := fun h => c1 ⟨h1, h⟩
                rw [root_top st h1] at h9
                omega
              · exact hf.2 (by omega)
            by_cases c5 : doesI t = 1
            · rw [if_pos c5]
              refine hstep _ (by simp) (by simp; omega) ?_ ?_ ?_
              · have h0 : (st.getD 0 zN).f4.length = 0 := hroot
                obtain ⟨s, n, rfl⟩ := snoc_of st hs
                refine ⟨?_, fun _ => ?_⟩ <;> (cases s with
                  | nil => simp only [List.nil_append, List.cons_append, List.getD_cons_zero] at h0 ⊢; omega
                  | cons a r => simp only [List.cons_append, List.getD_cons_zero] at h0 ⊢; omega)
              · rw [stG_snoc]
                refine ⟨stG_mono S st 0 b t.f3 hi1 hg, fun y hy => (by cases hy), fun _ => ⟨rfl, rfl, rfl, by show 0 ≤ t.f3; omega, by show t.f3 < t.f3 + 1; omega⟩⟩
              · rw [flatS_snoc _ _ hs, hsig.1 c5]; rfl
            · rw [if_neg c5]
              by_cases c6 : doesI t = 2
              · rw [if_pos c6]
                have hl2 : 1 < st.length := by have : ¬ st.length = 1 := fun h => c3 ⟨c6, h⟩; omega
                obtain ⟨s, n, rfl⟩ := snoc_of st hs
                have hs0 : 0 < s.length := by simp at hl2; exact hl2
                rw [top_snoc]
                have e : (s ++ [n]).take ((s ++ [n]).length - 1) = s := by simp
                rw [e]
                rw [stG_snoc] at hg
                obtain ⟨hg1, hg2, hg3⟩ := hg
                obtain ⟨q1, q2, q3, q4, q5⟩ := hg3 (by omega)
                have hr0 : (s.getD 0 zN).f4.length = 0 := by
                  cases s with
                  | nil => simp at hs0
                  | cons a r => simpa only [List.cons_append, List.getD_cons_zero] using hroot
                have hsl : s.length ≤ 16 := by simp at hs2; exact hs2
                have hgood : goodY S (s.length - 1) n := by
                  refine ⟨?_, incF_mono _ _ _ _ hbS q5, q4⟩
                  obtain ⟨k, x, m, a, l⟩ := n
                  simp only at q1 q2 q3 hg2
                  subst q1 q2 q3
                  rw [mayB, if_neg (by decide), if_neg (by decide), if_neg (by decide), if_pos rfl, wrap_small _ (by omega) (by omega), mayL_all]
                  have hi : ((s.length - 1 : Nat) : Int) + 1 = ((0 + s.length : Nat) : Int) := by omega
                  rw [hi]
                  simp only [Bool.and_eq_true, List.all_eq_true, decide_eq_true_eq]
                  exact ⟨fun y hy => (hg2 y hy).1, by decide, (toList_nil _).2 rfl, by omega⟩
                have hlast : n.f3 < b := by
                  have : ∀ (l : List NodeS) (a c : Int), incF a l c → a < c := by
                    intro l
                    induction l with
                    | nil => intro a c h; exact h
                    | cons z r ih => intro a c h; have := ih _ _ h.2; have := h.1; omega
                  exact this _ _ _ q5
                refine hstep _ (addTop_pos s n hs0) (by rw [addTop_len]; omega) (root_add s n ⟨by rw [hr0]; omega, fun _ => hr0⟩ hs0 (fun _ => hr0)) (stG_add S n.f3 (t.f3 + 1) s n hg1 hs0 hgood (by omega) (by omega)) ?_
                · rw [flatS_add s n hs0, flatS_snoc n s hs0, hsig.2 c6]
                  obtain ⟨k, x, m, a, l⟩ := n
                  simp only at q1
                  subst q1
                  rw [toksB, if_pos rfl]
                  simp
              · rw [if_neg c6]
                have c0 : doesI t = 0 := by have := doesI_cases t; omega
                obtain ⟨hm, h4⟩ := atom_may t (st.length - 1) hok hsz c0
                refine hstep _ (addTop_pos st _ hs) (by rw [addTop_len]; exact hs2) (root_add st _ hf hs (fun _ => hroot)) (stG_add S b (t.f3 + 1) st _ hg hs ⟨hm, by show t.f3 < S; omega, by show 0 ≤ t.f3; omega⟩ (by show b ≤ t.f3; omega) (by show t.f3 < t.f3 + 1; omega)) ?_
                · rw [flatS_add st _ hs, toksB, if_neg h4]; rfl
end Go.Proofs.YtngcojabofkbjaaDoor.P
namespace Go.Proofs.YtngcojabofkbjaaDoor.P
end Go.Proofs.YtngcojabofkbjaaDoor.P
namespace Go.Proofs.YtngcojabofkbjaaDoor.P
open Go.RowKit Go.Proofs.YtngcojabofkbjaaDoorW.PrintWords Go.Proofs.YtngcojabofkbjaaDoorW.PrintLast Go.Proofs.YtngcojabofkbjaaDoorW.PrintMore
set_option linter.unusedVariables false
set_option linter.unusedSimpArgs false
theorem incF_lt : ∀ (l : List NodeS) (a c : Int), incF a l c → a < c := by
  intro l
  induction l with
  | nil => intro a c h; exact h
  | cons z r ih => intro a c h; have := ih _ _ h.2; have := h.1; omega
def Parsed (s : ByteArray) (x : NodeS) (ts : List TokS) : Prop := s.size ≤ 5000 ∧ scan 1000 0 (bl s) = .inl ts ∧ ts.map bareT = toksB x ∧ mayB x 0 = true ∧ incF x.f3 x.f4 s.size ∧ 0 ≤ x.f3 ∧ ts.length ≤ 1000
theorem toksBL_one (x : NodeS) : toksBL [x] = toksB x := by rw [toksBL, toksBL, List.append_nil]
theorem parse_facts (s : ByteArray) : ((parseN s).2.2 = 0 ∧ (parseN s).2.1 = s.size ∧ ∃ ts, Parsed s (parseN s).1 ts) ∨ (((parseN s).2.2 = 4 ∨ (parseN s).2.2 = 2) ∧ (parseN s).1 = zN ∧ 0 ≤ (parseN s).2.1 ∧ (parseN s).2.1 ≤ s.size) := by
  by_cases hs : 5000 < s.size
  · have he := allF_big' s hs
    have h0 : (allF s).2.1 = 0 := by unfold allF; rw [if_pos (by omega)]
    have hp : parseN s = (zN, (allF s).2.1, (allF s).2.2) := by unfold parseN; exact if_pos (by omega)
    rw [hp]
    exact .inr ⟨.inr he, rfl, by show 0 ≤ (allF s).2.1; omega, by show (allF s).2.1 ≤ _; omega⟩
  · have ha : allF s = endL s [] (scan 1000 0 (bl s)) := Option.some.inj (all_small s (by omega))
    cases hx : scan 1000 0 (bl s) with
    | inr e =>
      obtain ⟨p, e⟩ := e
      obtain ⟨h1, h2, h3⟩ := scan_err _ _ _ _ _ _ (Nat.le_refl _) hx
      have hp : parseN s = (zN, (p : Int), e) := by
        unfold parseN
        rw [ha, hx]
        exact if_pos (show e ≠ 0 by omega)
      rw [hp]
      rw [bl_length] at h3
      exact .inr ⟨h1, rfl, by simp only; omega, by simp only; omega⟩
    | inl ts =>
      have hp : parseN s = parseEnd s.size (parseL ts [zN]) := by
        unfold parseN
        rw [ha, hx]
        exact if_neg (show ¬ ((0 : Int) ≠ 0) by decide)
      rw [hp]
      obtain ⟨f1, f2⟩ := scan_facts _ _ _ _ _ (Nat.le_refl _) hx
      rw [bl_length] at f1
      have hsnd := parse_sound (s.size : Int) ts [zN] 0 f2 (Int.le_refl _) (by omega) (fun t ht => ⟨(f1 t ht).1, fun h => by have := (f1 t ht).2.1 h; omega, by have := (f1 t ht).2.2; omega⟩) (by decide) (by decide) ⟨by decide, fun h => by simp at h⟩
        ⟨fun y hy => (by cases hy), fun h => by omega⟩
      cases hr : parseL ts [zN] with
      | inr e =>
        obtain ⟨p, e⟩ := e
        rw [hr] at hsnd
        obtain ⟨h1, h2, h3⟩ := hsnd
        exact .inr ⟨h1, rfl, h2, by show p ≤ _; omega⟩
      | inl st =>
        rw [hr] at hsnd
        obtain ⟨h1, h2, h3, h4⟩ := hsnd
        simp only [parseEnd]
        by_cases hl : st.length > 1
        · rw [if_pos hl]; exact .inr ⟨.inl rfl, rfl, by simp only; omega, by simp only; omega⟩
        · rw [if_neg hl]
          by_cases hz : (st.getD 0 zN).f4.length = 0
          · rw [if_pos hz]; exact .inr ⟨.inl rfl, rfl, by simp only; omega, by simp only; omega⟩
          · rw [if_neg hz]
            refine .inl ⟨rfl, rfl, ts, by omega, hx, ?_⟩
            obtain ⟨n, rfl⟩ := List.length_eq_one_iff.1 (show st.length = 1 by omega)
            simp only [List.getD_cons_zero] at h2 hz ⊢
            obtain ⟨x, hx4⟩ := List.length_eq_one_iff.1 (show n.f4.length = 1 by omega)
            rw [hx4]
            simp only [List.getD_cons_zero]
            simp only [flatS, List.nil_append] at h4
            rw [hx4, toksBL_one] at h4
            obtain ⟨g1, g2, g3⟩ := h3.1 x (by rw [hx4]; simp)
            have hlen := scan_len _ _ _ _ _ (Nat.le_refl _) hx
            refine ⟨?_, g1, g2, g3, hlen.2⟩
            rw [h4]
            rfl
theorem toks_pos (x : NodeS) : 1 ≤ (toksB x).length := by
  obtain ⟨k, t, n, a, l⟩ := x
  rw [toksB]
  split <;> simp
theorem toksBL_le (l : List NodeS) : l.length ≤ (toksBL l).length ∧ ∀ y ∈ l, (toksB y).length ≤ (toksBL l).length := by
  induction l with
  | nil => simp [toksBL]
  | cons x r ih =>
    rw [toksBL, List.length_append, List.length_cons]
    have := toks_pos x
    refine ⟨by omega, fun y hy => ?_⟩
    rcases List.mem_cons.1 hy with rfl | hy
    · omega
    · have := ih.2 y hy; omega
theorem small_toks : ∀ (N : Nat) (x : NodeS), SizeOf.sizeOf x ≤ N → leafB x = true → (toksB x).length ≤ 140737488351232 → smallB x = true := by
  intro N
  induction N with
  | zero => intro x hN; obtain ⟨k, t, n, a, l⟩ := x; simp only [S39.mk.sizeOf_spec] at hN; omega
  | succ N ih =>
    intro x hN hx hl
    obtain ⟨k, t, n, a, l⟩ := x
    rw [smallB, Bool.and_eq_true, decide_eq_true_eq, smallL_all, List.all_eq_true]
    by_cases h4 : k = 4
    · subst h4
      rw [leafB, if_pos rfl, Bool.and_eq_true, Bool.and_eq_true, leafL_all] at hx
      rw [toksB, if_pos rfl] at hl
      simp only [List.length_cons, List.length_append, List.length_nil] at hl
      have := toksBL_le l
      exact ⟨by omega, fun y hy => ih y (by have := size_in ⟨4, t, n, a, l⟩ y hy; omega) (hx.2.2 y hy) (by have := this.2 y hy; omega)⟩
    · obtain ⟨rfl, _⟩ := lex1_leaf k t n a l h4 hx
      exact ⟨by simp, fun y hy => by cases hy⟩
theorem parsed_small (s : ByteArray) (x : NodeS) (ts : List TokS) (h : Parsed s x ts) : smallB x = true := by
  obtain ⟨_, _, h3, h4, _, _, h7⟩ := h
  refine small_toks _ x (Nat.le_refl _) ((may_top x).1 h4).1 ?_
  rw [← h3, List.length_map]
  omega
theorem mayF_eq (x : NodeS) (h : smallB x = true) : sexp_May.f x.f0 x.f1 x.f2 x.f3 x.f4 = some (mayB x 0) := by
  unfold sexp_May.f sexp_may.f
  rw [node_eta x _ rfl, if_pos h]
  rfl
theorem printF_eq (x : NodeS) (h : smallB x = true) (hl : (textN x).length ≤ 1000000000000) : sexp_Print.f x.f0 x.f1 x.f2 x.f3 x.f4 = some (if mayB x 0 = true then textS x else ⟨#[]⟩) := by
  unfold sexp_Print.f
  rw [mayF_eq x h]
  simp only [Option.bind_some]
  by_cases hm : mayB x 0 = true
  · rw [if_pos hm, if_pos hm]
    unfold sexp_text.f
    rw [node_eta x _ rfl, if_pos hl]
    rfl
  · rw [if_neg hm, if_neg hm]
theorem itoa_5 : Lib.itoa 5 = [53] := by
  rw [show (5 : Int) = ((5 : Nat) : Int) from rfl, Lib.itoa_nonneg 5, Lib.decDigits_one (by omega)]
  decide
theorem parse_5 : Lib.parseIntB 64 [53] = .ok 5 := by decide
theorem numOk_5 : numOk [53] = true := by
  unfold numOk
  rw [parse_5]
  simp only [itoa_5, decide_true]
theorem numV_5 : numV [53] = 5 := by unfold numV; rw [parse_5]
theorem lex_5 (r : List UInt8) (hr : sepL r) : lex1 (53 :: r) = some (1, [53], 5, 1) := by
  have h : lex1 [53] = some (1, [53], 5, 1) := by
    rw [lex1_cons, if_neg (by decide), if_neg (by decide), if_pos (by decide)]
    have e : List.take (runN numU [53]) ([53] : List UInt8) = [53] := by decide
    have e2 : runN numU [53] = 1 := by decide
    rw [e, numOk_5, numV_5, if_pos rfl, e2]
  exact lex1_sep [53] r hr _ h
def exN : NodeS := ⟨4, ⟨#[]⟩, 0, 0, [⟨0, ⟨#[101, 113]⟩, 0, 1, []⟩, ⟨0, ⟨#[97]⟩, 0, 4, []⟩, ⟨1, ⟨#[53]⟩, 5, 6, []⟩]⟩
theorem allF_ex14 : allF ⟨#[40, 101, 113, 32, 97, 32, 53, 41]⟩ = ([⟨3, ⟨#[40]⟩, 0, 0⟩, ⟨0, ⟨#[101, 113]⟩, 0, 1⟩, ⟨0, ⟨#[97]⟩, 0, 4⟩, ⟨1, ⟨#[53]⟩, 5, 6⟩, ⟨3, ⟨#[41]⟩, 0, 7⟩], 8, 0) := by
  have e1 : lex1 [40, 101, 113, 32, 97, 32, 53, 41] = some (3, [40], 0, 1) := by decide
  have e2 : lex1 [101, 113, 32, 97, 32, 53, 41] = some (0, [101, 113], 0, 2) := by decide
  have e3 : lex1 [97, 32, 53, 41] = some (0, [97], 0, 1) := by decide
  have e4 : lex1 [53, 41] = some (1, [53], 5, 1) := lex_5 [41] (sep_cons _ _ (by decide) (by decide))
  have e5 : lex1 [41] = some (3, [41], 0, 1) := by decide
  have s0 : skipN false [40, 101, 113, 32, 97, 32, 53, 41] = 0 := by decide
  have s1 : skipN false [101, 113, 32, 97, 32, 53, 41] = 0 := by decide
  have s2 : skipN false [32, 97, 32, 53, 41] = 1 := by decide
  have s3 : skipN false [32, 53, 41] = 1 := by decide
  have s4 : skipN false [41] = 0 := by decide
  have s5 : skipN false [] = 0 := by decide
  have b : bl ⟨#[40, 101, 113, 32, 97, 32, 53, 41]⟩ = [40, 101, 113, 32, 97, 32, 53, 41] := rfl
  have z : (⟨#[40, 101, 113, 32, 97, 32, 53, 41]⟩ : ByteArray).size = 8 := rfl
  unfold allF allL
  rw [z, if_neg (by omega), b, s0]
  simp only [List.length_cons, List.length_nil, List.drop_zero, lexL, e1, e2, e3, e4, e5, s1, s2, s3, s4, s5, List.drop_succ_cons, List.drop_nil, endL, List.nil_append, z]
  rfl
theorem parse_ex14 : parseN ⟨#[40, 101, 113, 32, 97, 32, 53, 41]⟩ = (exN, 8, 0) := by
  unfold parseN
  rw [allF_ex14]
  have d1 : doesI ⟨3, ⟨#[40]⟩, 0, 0⟩ = 1 := does_open _ rfl
  have d2 : doesI ⟨0, ⟨#[101, 113]⟩, 0, 1⟩ = 0 := by rw [doesI_bare]; rfl
  have d3 : doesI ⟨0, ⟨#[97]⟩, 0, 4⟩ = 0 := by rw [doesI_bare]; rfl
  have d4 : doesI ⟨1, ⟨#[53]⟩, 5, 6⟩ = 0 := by rw [doesI_bare]; rfl
  have d5 : doesI ⟨3, ⟨#[41]⟩, 0, 7⟩ = 2 := does_shut _ rfl
  rw [if_neg (by decide)]
  simp only [parseL, d1, d2, d3, d4, d5]
  rfl
theorem may_ex14 : mayB exN 0 = true := by
  have h1 : aloneB 0 ⟨#[101, 113]⟩ 0 = true := (alone_self _ _ _ (.inl rfl)).2 ⟨by decide, .inl rfl, by decide⟩
  have h2 : aloneB 0 ⟨#[97]⟩ 0 = true := (alone_self _ _ _ (.inl rfl)).2 ⟨by decide, .inl rfl, by decide⟩
  have h3 : aloneB 1 ⟨#[53]⟩ 5 = true := (alone_self _ _ _ (.inr rfl)).2 ⟨by decide, .inr rfl, lex_5 [] sep_nil⟩
  have hb : ((⟨#[]⟩ : ByteArray).toList == []) = true := (toList_nil _).2 rfl
  unfold exN
  simp only [mayB, mayL, h1, h2, h3, hb]
  decide
theorem awake14_true : trufflelaw14_awake.f = some true := by
  unfold trufflelaw14_awake.f sexp_Parse.f
  rw [parse_ex14]
  have hs : smallB exN = true := by decide
  have ht : textN exN = [40, 101, 113, 32, 97, 32, 53, 41] := by decide
  simp only [Option.bind_some]
  rw [mayF_eq exN hs, printF_eq exN hs (by rw [ht]; decide), may_ex14]
  simp only [Option.bind_some, if_true, toList_bl, textS, ht]
  decide
end Go.Proofs.YtngcojabofkbjaaDoor.P
namespace Go.Proofs.YtngcojabofkbjaaDoor.P
open Go.RowKit Go.Proofs.YtngcojabofkbjaaDoorW.PrintWords Go.Proofs.YtngcojabofkbjaaDoorW.PrintLast Go.Proofs.YtngcojabofkbjaaDoorW.PrintMore
set_option linter.unusedVariables false
set_option linter.unusedSimpArgs false
theorem sm_loop (a : ByteArray) (x : NodeS) (h0 : smallB x = true) (h1 : mayB x 0 = true) (h2 : 0 ≤ x.f3) (h3 : x.f3 < a.size) (h4 : x.f4.length ≤ 1000) : ∀ (d k j : Nat) (last : Int), j ≤ x.f4.length → x.f4.length - j ≤ d → d + 1 < k → incF last (x.f4.drop j) a.size →
    trufflelaw14_SexpMay.l0 k a a.size last j x.f0 x.f1 x.f2 x.f3 x.f4 = some true := by
  intro d
  induction d with
  | zero =>
    intro k j last hj hd hk hi
    obtain ⟨k, rfl⟩ : ∃ m, k = m + 1 := ⟨k - 1, by omega⟩
    simp only [trufflelaw14_SexpMay.l0]
    rw [if_neg (by omega), mayF_eq x h0, h1]
    simp only [Option.bind_some, if_true]
    rw [if_pos (by omega), decide_eq_true h3]
  | succ d ih =>
    intro k j last hj hd hk hi
    obtain ⟨k, rfl⟩ : ∃ m, k = m + 1 := ⟨k - 1, by omega⟩
    by_cases hlt : j < x.f4.length
    · rw [List.drop_eq_getElem_cons hlt] at hi
      obtain ⟨i1, i2⟩ := hi
      have hlt2 := incF_lt _ _ _ i2
      have er : rd_T39 x.f4 (j : Int) = x.f4[j] := by simp [rd_T39, hlt]
      have hw : wrap64 ((j : Int) + 1) = ((j + 1 : Nat) : Int) := by rw [wrap_small _ (by omega) (by omega)]; omega
      simp only [trufflelaw14_SexpMay.l0]
      rw [if_pos (by omega), if_pos (by omega), er, if_neg (by omega), if_neg (by omega), hw]
      exact ih k (j + 1) _ (by omega) (by omega) (by omega) i2
    · simp only [trufflelaw14_SexpMay.l0]
      rw [if_neg (by omega), mayF_eq x h0, h1]
      simp only [Option.bind_some, if_true]
      rw [if_pos (by omega), decide_eq_true h3]
theorem SexpMay : trufflelaw14_SexpMay.Pure := by
  intro a ha
  refine ⟨2000, ?_⟩
  unfold trufflelaw14_SexpMay.f
  rw [awake14_true]
  simp only [Option.bind_some, if_true, trufflelaw14_SexpMay.j0]
  by_cases hb : (a.size : Int) > 3000
  · rw [if_pos (decide_eq_true hb)]
  · rw [if_neg (by rw [decide_eq_false hb]; decide)]
    unfold sexp_Parse.f
    simp only [Option.bind_some]
    rcases parse_facts a with ⟨h1, h2, ts, h3⟩ | ⟨h1, h2, h3, h4⟩
    · rw [if_pos h1, h2]
      have hs := parsed_small _ _ _ h3
      obtain ⟨g1, g2, g3, g4, g5, g6, g7⟩ := h3
      have hl : (parseN a).1.f4.length ≤ 1000 := by
        have h5 : (toksB (parseN a).1).length ≤ 1000 := by rw [← g3, List.length_map]; exact g7
        generalize (parseN a).1 = x at *
        obtain ⟨k, t, n, p, l⟩ := x
        by_cases h4 : k = 4
        · subst h4
          rw [toksB, if_pos rfl] at h5
          simp only [List.length_cons, List.length_append, List.length_nil] at h5
          have := (toksBL_le l).1
          show l.length ≤ 1000
          omega
        · obtain ⟨rfl, _⟩ := lex1_leaf k t n p l h4 ((may_top _).1 g4).1
          simp
      exact sm_loop a (parseN a).1 hs g4 g6 (incF_lt _ _ _ g5) hl 1000 1999 0 _ (by omega) (by omega) (by omega) (by rw [List.drop_zero]; exact g5)
    · rw [if_neg (by omega), h2]
      rw [if_pos (show (zN : NodeS).f0 = 0 from rfl), if_pos (show (zN : NodeS).f1.toList = [] by rw [toList_bl]; rfl), if_pos (show ((zN : NodeS).f4.length : Int) = 0 from rfl), if_pos h3, decide_eq_true h4]
end Go.Proofs.YtngcojabofkbjaaDoor.P
namespace Go.Proofs.YtngcojabofkbjaaDoor.laidKit
open Go.RowKit
abbrev lst : List (String × DataW Unit) := [("math/bits.deBruijn32tab", Rows.laid_math_bits_deBruijn32tab), ("math/bits.deBruijn64tab", Rows.laid_math_bits_deBruijn64tab), ("internal/strconv.uint64pow10", Rows.laid_internal_strconv_uint64pow10), ("strconv.ErrRange", Rows.laid_strconv_ErrRange), ("strconv.ErrSyntax", Rows.laid_strconv_ErrSyntax)]
theorem gPow : Tryd.prog.globalNamed "internal/strconv.uint64pow10" = some 0 := by kernel_rfl
theorem gPowT : (Tryd.prog.globals[0]?).map (·.type) = some 120 := by kernel_rfl
theorem cPow : Tryd.prog.cellsOf 120 = 20 := by kernel_rfl
theorem cU64 : Tryd.prog.cellsOf 101 = 1 := by kernel_rfl
theorem gRng : Tryd.prog.globalNamed "strconv.ErrRange" = some 2 := by kernel_rfl
theorem gRngT : (Tryd.prog.globals[2]?).map (·.type) = some 67 := by kernel_rfl
theorem gSyn : Tryd.prog.globalNamed "strconv.ErrSyntax" = some 1 := by kernel_rfl
theorem gSynT : (Tryd.prog.globals[1]?).map (·.type) = some 67 := by kernel_rfl
theorem cErr : Tryd.prog.cellsOf 132 = 1 := by kernel_rfl
theorem cStr : Tryd.prog.cellsOf 9 = 1 := by kernel_rfl
theorem star : "*" ++ "errors.errorString" = "*errors.errorString" := by decide
theorem rowErr (u : TypeId) (h : Tryd.prog.typeName? 3 u = some "*errors.errorString") : u = 130 :=
  typeName_ptr_named (nm := "errors.errorString") (by rw [star]; kernel_rfl) (by kernel_rfl) (by decide) u (by rw [star]; exact h)
theorem pow_is : (Rows.laid_internal_strconv_uint64pow10 : DataW Unit) = Lib.tabData .u64 Lib.pow10Tab := by rfl
theorem ginv {W : World} (h : laidMetH Tryd.prog lst W) : P.GInv W := by
  rw [Go.MakeChecks.laidMetH_plain _ _ _ (by kernel_rfl)] at h
  have h3 := h.tail.tail
  have hp : Lib.TabIs Tryd.prog W "internal/strconv.uint64pow10" .u64 Lib.pow10Tab :=
    Lib.tabIs_of_head gPow gPowT Tryd.underlying120 Tryd.underlying101 cU64 cPow (by rw [← pow_is]; exact h3)
  obtain ⟨a1, s1, hv1, _, _, _⟩ := laid_sentinel h3.tail gRng gRngT Tryd.underlying67 rowErr Tryd.underlying130 Tryd.underlying132 rfl rfl Tryd.underlying9 cErr cStr
  obtain ⟨a2, s2, hv2, _, _, _⟩ := laid_sentinel h3.tail.tail gSyn gSynT Tryd.underlying67 rowErr Tryd.underlying130 Tryd.underlying132 rfl rfl Tryd.underlying9 cErr cStr
  refine ⟨⟨_, _, by have h0 := World.var?_cell gSyn hv2 0; simpa using h0⟩, ⟨_, _, by have h0 := World.var?_cell gRng hv1 0; simpa using h0⟩, hp, ?_⟩
  have c0 := hp.cell gPow 0 (by decide)
  exact World.block_lt_of_cell? W _ c0
abbrev synS : ByteArray := { data := #[105, 110, 118, 97, 108, 105, 100, 32, 115, 121, 110, 116, 97, 120] }
abbrev rngS : ByteArray := { data := #[118, 97, 108, 117, 101, 32, 111, 117, 116, 32, 111, 102, 32, 114, 97, 110, 103, 101] }
def cellsOfData : DataW Unit → Array Value
  | .agg l => (l.map fun
      | .lit (.int k n) => Value.int k n
      | _ => .nilIface).toArray
  | _ => #[]
noncomputable def low : Nat := (World.holding Tryd.prog default ⟨#[], #[], []⟩).heap.size
noncomputable def laidWorld (os : Os) : World :=
  let w0 := World.holding Tryd.prog os ⟨#[.cells #[.string synS] 132, .cells #[.string rngS] 132], #[], []⟩
  { w0 with heap := ((((w0.heap.modify 0 fun
      | .cells _ t frozen => .cells (cellsOfData Rows.laid_internal_strconv_uint64pow10) t frozen
      | o => o).modify 1 fun
      | .cells _ t frozen => .cells #[.iface 130 (.pointer (some ⟨low, 0, none⟩))] t frozen
      | o => o).modify 2 fun
      | .cells _ t frozen => .cells #[.iface 130 (.pointer (some ⟨low + 1, 0, none⟩))] t frozen
      | o => o).modify 4 fun
      | .cells _ t frozen => .cells (cellsOfData Rows.laid_math_bits_deBruijn32tab) t frozen
      | o => o).modify 5 fun
      | .cells _ t frozen => .cells (cellsOfData Rows.laid_math_bits_deBruijn64tab) t frozen
      | o => o }
theorem laid_met (os : Os) (args : Array Value) : laidMet Tryd.prog lst ((laidWorld os).forCall (fun _ _ => 0) ⟨#[], args, []⟩).memory :=
  laidMet_of_run' 8 (by kernel_rfl) (by kernel_rfl)
end Go.Proofs.YtngcojabofkbjaaDoor.laidKit
