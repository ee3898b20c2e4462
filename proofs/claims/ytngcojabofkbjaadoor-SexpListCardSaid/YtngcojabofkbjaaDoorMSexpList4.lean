/- Part 4 of what the law SexpList leans on: contracts of the functions that it reaches, and plain lemmas; printed walks and words (by the kit's print, through wip/mp.py) and the session's own texts, one behind the other, what is not used left out (wip/prune.py). -/
import Derived.StillTailTactics
import Derived.Test.YtngcojabofkbjaaDoorMSexpList1
import Derived.Test.YtngcojabofkbjaaDoorMSexpList2
import Derived.Test.YtngcojabofkbjaaDoorMSexpList3
namespace Go.Proofs.YtngcojabofkbjaaDoor.P
open Go.RowKit Go.Proofs.YtngcojabofkbjaaDoorW.PrintWords Go.Proofs.YtngcojabofkbjaaDoorW.PrintLast Go.Proofs.YtngcojabofkbjaaDoorW.PrintMore
set_option linter.unusedVariables false
set_option linter.unusedSimpArgs false
def ParsePost (w : World) (r : NodeS × Int × Int) (e : Ending) (w' : World) : Prop := ∃ v4 : Value, e = .returned (.tuple #[.agg #[.int .i64 r.1.f0, .string r.1.f1, .int .i64 r.1.f2, .int .i64 r.1.f3, v4], .int .i64 r.2.1, .int .i64 r.2.2]) ∧ Kd.R k39 39 w' w.heap.size (fun _ => True) v4 r.1.f4 ∧ Below w.heap.size w w'
theorem sexpParse_ret {w V : World} {tmps : Array Value} {r : NodeS × Int × Int} {v4 : Value} (ht : tmps.getD 2 undef = .pointer (some ⟨w.heap.size, 0, none⟩)) (h3 : tmps.getD 3 undef = .int .i64 r.2.1) (h4 : tmps.getD 4 undef = .int .i64 r.2.2)
    (hb : V.heap[w.heap.size]? = some (.cells #[.int .i64 r.1.f0, .string r.1.f1, .int .i64 r.1.f2, .int .i64 r.1.f3, v4] 39 (0, 0))) (hR : Kd.R k39 39 V w.heap.size (fun _ => True) v4 r.1.f4) (hB : Below w.heap.size w V) :
    bodyPost Tryd.prog Tryd.f24 (ParsePost w r) .ret { tmps := tmps, defers := [] } V := by
  refine bodyPost_ret (results_ctt rfl _ _ w.heap.size 39 _ (0, 0) _ ht hb Tryd.underlying39 rfl (by kernel_rfl)) rfl ⟨v4, ?_, hR, hB⟩
  rw [h3, h4]
theorem box_put5 {V : World} {g : Nat} {t : TypeId} {c0 c1 c2 c3 c4 : Value} (h : V.heap[g]? = some (.cells #[c0, c1, c2, c3, c4] t (0, 0))) (u0 u1 u2 u3 u4 : Value) :
    (((((V.setCell ⟨g, 0, none⟩ u0).setCell ⟨g, 1, none⟩ u1).setCell ⟨g, 2, none⟩ u2).setCell ⟨g, 3, none⟩ u3).setCell ⟨g, 4, none⟩ u4).heap[g]? = some (.cells #[u0, u1, u2, u3, u4] t (0, 0)) :=
  blk_set (blk_set (blk_set (blk_set (blk_set h 0 u0) 1 u1) 2 u2) 3 u3) 4 u4
theorem set5_below {B : Nat} {W V : World} {g : Nat} (h : Below B W V) (hg : B ≤ g) (u0 u1 u2 u3 u4 : Value) : Below B W (((((V.setCell ⟨g, 0, none⟩ u0).setCell ⟨g, 1, none⟩ u1).setCell ⟨g, 2, none⟩ u2).setCell ⟨g, 3, none⟩ u3).setCell ⟨g, 4, none⟩ u4) :=
  ((((h.setCell (p := ⟨g, 0, none⟩) hg u0).setCell (p := ⟨g, 1, none⟩) hg u1).setCell (p := ⟨g, 2, none⟩) hg u2).setCell (p := ⟨g, 3, none⟩) hg u3).setCell (p := ⟨g, 4, none⟩) hg u4
set_option maxRecDepth 100000 in
set_option maxHeartbeats 8000000 in
theorem sexpParse_err (s : ByteArray) (w : World) (hG : GInv w) (he : (allF s).2.2 ≠ 0) : Calls Tryd.prog 24 #[.string s] w (ParsePost w (zN, (allF s).2.1, (allF s).2.2)) := by
  have HA := Aside0.mk (fun (W : World) (h : GInv W) => token_All.calls s (allF s).1 (allF s).2.1 (allF s).2.2 W h rfl)
  have HG := Aside0.mk (hG.below (below_alloc (Below.refl _ w) (.cells #[.int .i64 0, .string ⟨#[]⟩, .int .i64 0, .int .i64 0, .slice none 0 0] 39)))
  have hn : ((allF s).2.2 != 0) = true := bne_iff_ne.2 he
  clear he hG
  generalize (allF s).1 = l at *
  generalize (allF s).2.1 = p at *
  generalize (allF s).2.2 = e at *
  go_enter Tryd.func24, Tryd.ntmps24
  go_wp2_with (go_at_call 16; refine (HA.out _ HG.out).mono ?_; rintro e1 W1 ⟨v0, rfl, hR, hB⟩; have hb0 := blk_below (blk_new w (.cells #[.int .i64 0, .string ⟨#[]⟩, .int .i64 0, .int .i64 0, .slice none 0 0] 39)) hB; have q0 := (blk_cell hb0 0).trans rfl; have q1 := (blk_cell hb0 1).trans rfl; have q2 := (blk_cell hb0 2).trans rfl; have q3 := (blk_cell hb0 3).trans rfl; have q4 := (blk_cell hb0 4).trans rfl; have f0 := blk_frozen hb0 0; have f1 := blk_frozen hb0 1; have f2 := blk_frozen hb0 2; have f3 := blk_frozen hb0 3; have f4 := blk_frozen hb0 4; have HB0 := Aside0.mk hb0; have HB := Aside0.mk hB; clear hR hB hb0)
  have k1 := box_put5 HB0.out (.int .i64 0) (.string ⟨#[]⟩) (.int .i64 0) (.int .i64 0) (.slice none 0 0)
  have k2 := set5_below (g := w.heap.size) (below_step (below_alloc (Below.refl w.heap.size w) _) HB.out) (Nat.le_refl _) (.int .i64 0) (.string ⟨#[]⟩) (.int .i64 0) (.int .i64 0) (.slice none 0 0)
  refine sexpParse_ret (r := (zN, p, e)) (v4 := .slice none 0 0) ?_ ?_ ?_ k1 (Kd.R_nil _ _ _ _ _) k2
  · rfl
  · rfl
  · rfl
theorem drew_blk {V : World} {g : Nat} {b : Obj} (h : V.heap[g]? = some b) : V.drew.heap[g]? = some b := h
theorem drew_cell {V : World} {p : Addr} {v : Option Value} (h : V.cell? p = v) : V.drew.cell? p = v := h
theorem set5_far (V : World) (g k : Nat) (h : k ≠ g) (u0 u1 u2 u3 u4 : Value) : (((((V.setCell ⟨g, 0, none⟩ u0).setCell ⟨g, 1, none⟩ u1).setCell ⟨g, 2, none⟩ u2).setCell ⟨g, 3, none⟩ u3).setCell ⟨g, 4, none⟩ u4).heap[k]? = V.heap[k]? := by
  rw [Below.heap_setCell _ ⟨g, 4, none⟩ u4 k h, Below.heap_setCell _ ⟨g, 3, none⟩ u3 k h, Below.heap_setCell _ ⟨g, 2, none⟩ u2 k h, Below.heap_setCell _ ⟨g, 1, none⟩ u1 k h, Below.heap_setCell _ ⟨g, 0, none⟩ u0 k h]
theorem R_set5 {V : World} {B g : Nat} {ok : Nat → Prop} {v : Value} {xs : List NodeS} (h : k39.R 39 V B ok v xs) (hg : g < B) (u0 u1 u2 u3 u4 : Value) :
    k39.R 39 (((((V.setCell ⟨g, 0, none⟩ u0).setCell ⟨g, 1, none⟩ u1).setCell ⟨g, 2, none⟩ u2).setCell ⟨g, 3, none⟩ u3).setCell ⟨g, 4, none⟩ u4) g (fun _ => True) v xs :=
  Kd.R_lower (Kd.R_mono (Kd.R_step (Kd.R_bound h) (fun k hk _ => set5_far V g k (by have := hk.2.1; omega) u0 u1 u2 u3 u4)) (fun _ _ => trivial)) (Nat.le_of_lt hg)
theorem zN_M (W : World) (base : Nat) (ok : Nat → Prop) : k39.M W base ok zN [.int .i64 0, .string ⟨#[]⟩, .int .i64 0, .int .i64 0, .slice none 0 0] := k39_mkM W base ok zN (v4 := .slice none 0 0) (Kd.R_nil _ _ _ _ _)
abbrev StS (W : World) (B g cap : Nat) (st : List NodeS) : Prop := Kd.S k39 39 W B (fun _ => True) (.slice (some ⟨g, 0, none⟩) st.length cap) st
theorem st_init (W : World) : StS (W.alloc (.cells #[.int .i64 0, .string ⟨#[]⟩, .int .i64 0, .int .i64 0, .slice none 0 0] 39 (0, 0))) W.heap.size W.heap.size 1 [zN] := by
  refine Kd.S_bare ⟨fun _ _ => trivial, [.int .i64 0, .string ⟨#[]⟩, .int .i64 0, .int .i64 0, .slice none 0 0], World.ownsRow_lit (base := W.heap.size) (e := 39) (size := 5) W #[.int .i64 0, .string ⟨#[]⟩, .int .i64 0, .int .i64 0, .slice none 0 0] 1 (Nat.le_refl _) (by decide) rfl, rfl, fun j p hj => ?_⟩
  match j, hj with
  | 0, hj =>
    simp only [List.getElem?_cons_zero, Option.some.injEq] at hj
    subst hj
    exact zN_M _ _ _
theorem st_top {W : World} {B g cap : Nat} {st : List NodeS} (h : StS W B g cap st) (hp : 0 < st.length) : ∃ (A4 : Option Addr) (c4 : Nat),
    W.cell? ⟨g, (st.length - 1) * 5 + 4, none⟩ = some (.slice A4 (topN st).f4.length c4) := by
  obtain ⟨oki, c, h1, h2, h3, h4, h5⟩ := Kd.S_lend h zN ((st.length - 1 : Nat) : Int) (by omega) (by omega)
  obtain ⟨v4, rfl, hR⟩ := k39_openM h2
  obtain ⟨A4, c4, e, _⟩ := Kd.R_reads hR
  have := h3 4 _ rfl
  rw [Int.toNat_natCast] at this
  refine ⟨A4, c4, ?_⟩
  rw [show topN st = st.getD ((st.length - 1 : Nat) : Int).toNat zN from by rw [Int.toNat_natCast]; rfl, ← e]
  exact this
set_option maxRecDepth 100000 in
set_option maxHeartbeats 8000000 in
theorem sexpParse_ok (s : ByteArray) (l : List TokS) (p : Int) (w : World) (hG : GInv w) (hA : token_All.f s = some (l, p, 0)) (hl : l.length ≤ 1000) (hs : s.size ≤ 140737488351232) : Calls Tryd.prog 24 #[.string s] w (ParsePost w (parseEnd s.size (parseL l [zN]))) := by
  have HA := Aside0.mk (fun (W : World) (h : GInv W) => token_All.calls s l p 0 W h hA)
  have HG := Aside0.mk (hG.below (below_alloc (Below.refl _ w) (.cells #[.int .i64 0, .string ⟨#[]⟩, .int .i64 0, .int .i64 0, .slice none 0 0] 39)))
  clear hG hA
  go_enter Tryd.func24, Tryd.ntmps24
  go_wp2_with fail
  go_at_call 16
  refine (HA.out _ HG.out).mono ?_
  rintro e1 W1 ⟨v0, rfl, hR, hB⟩
  have hb0 := blk_below (blk_new w (.cells #[.int .i64 0, .string ⟨#[]⟩, .int .i64 0, .int .i64 0, .slice none 0 0] 39)) hB
  obtain ⟨A, c, rfl, hlc, hC⟩ := Kd.R_reads hR
  have HB0 := Aside0.mk hb0
  have HB := Aside0.mk hB
  have HC := Aside0.mk hC
  have HLC := Aside0.mk hlc
  clear hR hB hb0 hC hlc
  go_wp2
  have hS0 := Aside0.mk (st_init W1)
  have hBl : Aside0 (Below W1.heap.size W1 (W1.alloc (.cells #[.int .i64 0, .string ⟨#[]⟩, .int .i64 0, .int .i64 0, .slice none 0 0] 39 (0, 0)))) := ⟨below_alloc (Below.refl _ _) _⟩
  obtain ⟨R, HR0⟩ : ∃ R, parseL l [zN] = R := ⟨_, rfl⟩
  have HR := Aside0.mk HR0
  have HRE := Aside0.mk HR0
  clear HR0
  go_loopg [8, 31] l.length (fun nn v8 v31 W => ∃ (i : Nat) (st : List NodeS) (g cap : Nat), v31 = .int .i64 i ∧ v8 = .slice (some ⟨g, 0, none⟩) st.length cap ∧ Aside0 (parseL (l.drop i) st = R) ∧ Aside0 (StS W W1.heap.size g cap st) ∧ Aside0 (Below W1.heap.size W1 W) ∧ Aside0 (i + nn = l.length) ∧ Aside0 (stOk i st))
  case atStart => exact ⟨0, [zN], W1.heap.size, 1, rfl, rfl, HR, hS0, hBl, ⟨by omega⟩, ⟨by decide, by decide, fun x hx => by rw [List.mem_singleton.1 hx]; decide⟩⟩
  case round =>
    clear HR hS0 hBl
    obtain ⟨i, st, g, cap, rfl, rfl, HP, HS, HBl, HN, HO⟩ := hrel
    have hbx := blk_below HB0.out HBl.out
    have HBX := Aside0.mk hbx
    have q0 := (blk_cell hbx 0).trans rfl
    have q1 := (blk_cell hbx 1).trans rfl
    have q2 := (blk_cell hbx 2).trans rfl
    have q3 := (blk_cell hbx 3).trans rfl
    have q4 := (blk_cell hbx 4).trans rfl
    have f0 := blk_frozen hbx 0
    have f1 := blk_frozen hbx 1
    have f2 := blk_frozen hbx 2
    have f3 := blk_frozen hbx 3
    have f4 := blk_frozen hbx 4
    have HW := Aside0.mk (below_step (below_step (below_alloc (Below.refl w.heap.size w) (.cells #[.int .i64 0, .string ⟨#[]⟩, .int .i64 0, .int .i64 0, .slice none 0 0] 39)) HB.out) HBl.out)
    clear hbx
    by_cases hlt : i < l.length
    · obtain ⟨A4, c4, htop⟩ := st_top HS.out HO.out.1
      obtain ⟨m, hm⟩ : ∃ m, st.length = m + 1 := ⟨st.length - 1, by have := HO.out.1; omega⟩
      rw [hm, Nat.add_sub_cancel] at htop
      have hstep : l.drop i = l[i] :: l.drop (i + 1) := List.drop_eq_getElem_cons hlt
      obtain ⟨ad, hAd, t0, t1, t2, t3⟩ := at_T29 HC.out (i : Int) (by omega) (by omega)
      cases hAd
      have er : rd_T29 l (i : Int) = l[i] := by simp [rd_T29, hlt]
      rw [er, Int.toNat_natCast] at t0 t1 t2 t3
      have t0 := pw_cell_below HBl.out t0
      have t1 := pw_cell_below HBl.out t1
      have t2 := pw_cell_below HBl.out t2
      have t3 := pw_cell_below HBl.out t3
      rw [hstep] at HP
      clear hstep er
      generalize l[i] = t at *
      have HD := Aside0.mk (fun W => sexp_does.calls 1 t.f0 t.f1 t.f2 t.f3 (doesI t) W (does_eq t))
      have HM := Aside0.mk hm
      rw [hm]
      clear hm
      have HNE : Aside0 (wr.heap.size ≠ w.heap.size) := ⟨by have h1 := HB.out.size; have h2 := HBl.out.size; rw [World.size_alloc] at h1; omega⟩
      by_cases hfull : st.length = 1 ∧ (topN st).f4.length = 1
      · have hR : Aside0 (R = .inr (t.f3, 4)) := ⟨by rw [← HP.out, parseL, if_pos hfull]⟩
        have hm0 : m = 0 := by have := HM.out; omega
        have b2 : (((topN st).f4.length : Int) == 1) = true := beq_iff_eq.2 (by omega)
        clear hfull HP
        subst hm0
        simp only [Nat.zero_mul, Nat.zero_add] at htop
        have hV : Aside0 (parseEnd s.size (parseL l [zN]) = (zN, t.f3, 4)) := ⟨by rw [HRE.out, hR.out, parseEnd]⟩
        clear q0 q1 q2 q3 q4 f0 f1 f2 f3 f4
        go_wp2_with (go_at_call 45; refine (HD.out _).mono ?_; rintro e2 W2 ⟨rfl, hB2⟩; have KB2 := Aside0.mk (below_step (below_alloc (Below.refl wr.heap.size wr) _) hB2); have htop2 := pw_cell_below KB2.out htop; have tb := blk_below (blk_new wr (.cells #[.int .i64 t.f0, .string t.f1, .int .i64 t.f2, .int .i64 t.f3] 29)) hB2; have TB := Aside0.mk tb; have tb0 := (blk_cell tb 0).trans rfl; have tb1 := (blk_cell tb 1).trans rfl; have tb2 := (blk_cell tb 2).trans rfl; have tb3 : W2.cell? ⟨wr.heap.size, 3, none⟩ = some (.int .i64 t.f3) := (blk_cell tb 3).trans rfl; have bx2 := blk_below HBX.out KB2.out; have BX2 := Aside0.mk bx2; have r0 := (blk_cell bx2 0).trans rfl; have r1 := (blk_cell bx2 1).trans rfl; have r2 := (blk_cell bx2 2).trans rfl; have r3 := (blk_cell bx2 3).trans rfl; have r4 := (blk_cell bx2 4).trans rfl; have s0 := blk_frozen bx2 0; have s1 := blk_frozen bx2 1; have s2 := blk_frozen bx2 2; have s3 := blk_frozen bx2 3; have s4 := blk_frozen bx2 4; clear hB2 tb bx2 htop)
        refine start_ (n := 6) (S := fun V => V.cell? ⟨wr.heap.size, 3, none⟩ = some (.int .i64 t.f3)) (ds := []) #[false, false, false, false, false, false] (by kernel_rfl) rfl rfl tb3 (fun hHeld => ?_)
        refine pure_ (i := 0) (N := some 83) (v := ?_) (a' := ?_) #[true, false, false, false, false, false] rfl rfl (by kernel_rfl) (fun _ _ _ h => h) (Or.inl ⟨by rfl, ?_⟩) ?_ ?_
        rotate_left
        · intro w'
          go_simp
          try with_reducible rfl
        rotate_left
        · simp only [Act.put, List.setIfInBounds_toArray, List.set_cons_zero, List.set_cons_succ]
          rfl
        refine pure_ (i := 1) (N := some 84) (v := ?_) (a' := ?_) #[true, true, false, false, false, false] rfl rfl (by kernel_rfl) (fun _ _ _ h => h) (Or.inl ⟨by rfl, ?_⟩) ?_ ?_
        rotate_left
        · intro w'
          go_simp
          try with_reducible rfl
        rotate_left
        · simp only [Act.put, List.setIfInBounds_toArray, List.set_cons_zero, List.set_cons_succ]
          rfl
        refine take_ (i := 2) (N := some 85) (v := ?_) (a' := ?_) #[true, true, true, false, false, false] rfl rfl (by kernel_rfl) (fun _ _ _ h => h) (Or.inl ⟨by rfl, ?_⟩) hHeld ?_ ?_
        rotate_left
        · intro w' hS_
          try dsimp only at hS_
          go_simp
          try with_reducible rfl
        rotate_left
        · simp only [Act.put, List.setIfInBounds_toArray, List.set_cons_zero, List.set_cons_succ]
          rfl
        refine one_ (i := 3) (N := none) #[true, true, true, true, false, false] rfl rfl (by kernel_rfl) (by decide) (fun K hK => ?_)
        go_simp
        refine hK.out _ _ (drew_cell ((blk_cell ((set5_far W2 w.heap.size wr.heap.size HNE.out (.int .i64 0) (.string ⟨#[]⟩) (.int .i64 0) (.int .i64 0) (.slice none 0 0)).trans TB.out) 3).trans rfl)) (fun hHeld => ?_)
        clear hK K
        refine one_ (i := 4) (N := some 3) #[true, true, true, true, true, false] rfl rfl (by kernel_rfl) (by decide) (fun K hK => ?_)
        go_simp
        refine hK.out _ _ hHeld (fun hHeld => ?_)
        clear hK K
        refine one_ (i := 5) (N := some 4) #[true, true, true, true, true, true] rfl rfl (by kernel_rfl) (by decide) (fun K hK => ?_)
        go_simp
        refine hK.out _ _ hHeld (fun hHeld => ?_)
        clear hK K
        refine done_ (by kernel_rfl) ?_
        go_wp2
        rw [hV.out]
        have k1 := drew_blk (box_put5 (V := W2) BX2.out (.int .i64 0) (.string ⟨#[]⟩) (.int .i64 0) (.int .i64 0) (.slice none 0 0))
        have k2 := below_drew1 (set5_below (g := w.heap.size) (below_step HW.out KB2.out) (Nat.le_refl _) (.int .i64 0) (.string ⟨#[]⟩) (.int .i64 0) (.int .i64 0) (.slice none 0 0))
        refine sexpParse_ret (r := (zN, t.f3, 4)) (v4 := .slice none 0 0) ?_ ?_ ?_ k1 (Kd.R_nil _ _ _ _ _) k2
        · rfl
        · rfl
        · rfl
      · by_cases hd3 : doesI t = 3
        · have hR : Aside0 (R = .inr (t.f3, 4)) := ⟨by rw [← HP.out, parseL, if_neg hfull, if_pos hd3]⟩
          have hV : Aside0 (parseEnd s.size (parseL l [zN]) = (zN, t.f3, 4)) := ⟨by rw [HRE.out, hR.out, parseEnd]⟩
          rw [hd3] at HD
          clear HP hd3
          by_cases hm0 : m = 0
          · have b2 : (((topN st).f4.length : Int) == 1) = false := beq_eq_false_iff_ne.2 (by have := HM.out; omega)
            clear hfull
            subst hm0
            simp only [Nat.zero_mul, Nat.zero_add] at htop
            clear q0 q1 q2 q3 q4 f0 f1 f2 f3 f4
            go_wp2_with (go_at_call 45; refine (HD.out _).mono ?_; rintro e2 W2 ⟨rfl, hB2⟩; have KB2 := Aside0.mk (below_step (below_alloc (Below.refl wr.heap.size wr) _) hB2); have htop2 := pw_cell_below KB2.out htop; have tb := blk_below (blk_new wr (.cells #[.int .i64 t.f0, .string t.f1, .int .i64 t.f2, .int .i64 t.f3] 29)) hB2; have TB := Aside0.mk tb; have tb0 := (blk_cell tb 0).trans rfl; have tb1 := (blk_cell tb 1).trans rfl; have tb2 := (blk_cell tb 2).trans rfl; have tb3 : W2.cell? ⟨wr.heap.size, 3, none⟩ = some (.int .i64 t.f3) := (blk_cell tb 3).trans rfl; have bx2 := blk_below HBX.out KB2.out; have BX2 := Aside0.mk bx2; have r0 := (blk_cell bx2 0).trans rfl; have r1 := (blk_cell bx2 1).trans rfl; have r2 := (blk_cell bx2 2).trans rfl; have r3 := (blk_cell bx2 3).trans rfl; have r4 := (blk_cell bx2 4).trans rfl; have s0 := blk_frozen bx2 0; have s1 := blk_frozen bx2 1; have s2 := blk_frozen bx2 2; have s3 := blk_frozen bx2 3; have s4 := blk_frozen bx2 4; clear hB2 tb bx2 htop)
            refine start_ (n := 6) (S := fun V => V.cell? ⟨wr.heap.size, 3, none⟩ = some (.int .i64 t.f3)) (ds := []) #[false, false, false, false, false, false] (by kernel_rfl) rfl rfl tb3 (fun hHeld => ?_)
            refine pure_ (i := 0) (N := some 83) (v := ?_) (a' := ?_) #[true, false, false, false, false, false] rfl rfl (by kernel_rfl) (fun _ _ _ h => h) (Or.inl ⟨by rfl, ?_⟩) ?_ ?_
            rotate_left
            · intro w'
              go_simp
              try with_reducible rfl
            rotate_left
            · simp only [Act.put, List.setIfInBounds_toArray, List.set_cons_zero, List.set_cons_succ]
              rfl
            refine pure_ (i := 1) (N := some 84) (v := ?_) (a' := ?_) #[true, true, false, false, false, false] rfl rfl (by kernel_rfl) (fun _ _ _ h => h) (Or.inl ⟨by rfl, ?_⟩) ?_ ?_
            rotate_left
            · intro w'
              go_simp
              try with_reducible rfl
            rotate_left
            · simp only [Act.put, List.setIfInBounds_toArray, List.set_cons_zero, List.set_cons_succ]
              rfl
            refine take_ (i := 2) (N := some 85) (v := ?_) (a' := ?_) #[true, true, true, false, false, false] rfl rfl (by kernel_rfl) (fun _ _ _ h => h) (Or.inl ⟨by rfl, ?_⟩) hHeld ?_ ?_
            rotate_left
            · intro w' hS_
              try dsimp only at hS_
              go_simp
              try with_reducible rfl
            rotate_left
            · simp only [Act.put, List.setIfInBounds_toArray, List.set_cons_zero, List.set_cons_succ]
              rfl
            refine one_ (i := 3) (N := none) #[true, true, true, true, false, false] rfl rfl (by kernel_rfl) (by decide) (fun K hK => ?_)
            go_simp
            refine hK.out _ _ (drew_cell ((blk_cell ((set5_far W2 w.heap.size wr.heap.size HNE.out (.int .i64 0) (.string ⟨#[]⟩) (.int .i64 0) (.int .i64 0) (.slice none 0 0)).trans TB.out) 3).trans rfl)) (fun hHeld => ?_)
            clear hK K
            refine one_ (i := 4) (N := some 3) #[true, true, true, true, true, false] rfl rfl (by kernel_rfl) (by decide) (fun K hK => ?_)
            go_simp
            refine hK.out _ _ hHeld (fun hHeld => ?_)
            clear hK K
            refine one_ (i := 5) (N := some 4) #[true, true, true, true, true, true] rfl rfl (by kernel_rfl) (by decide) (fun K hK => ?_)
            go_simp
            refine hK.out _ _ hHeld (fun hHeld => ?_)
            clear hK K
            refine done_ (by kernel_rfl) ?_
            go_wp2
            rw [hV.out]
            have k1 := drew_blk (box_put5 (V := W2) BX2.out (.int .i64 0) (.string ⟨#[]⟩) (.int .i64 0) (.int .i64 0) (.slice none 0 0))
            have k2 := below_drew1 (set5_below (g := w.heap.size) (below_step HW.out KB2.out) (Nat.le_refl _) (.int .i64 0) (.string ⟨#[]⟩) (.int .i64 0) (.int .i64 0) (.slice none 0 0))
            refine sexpParse_ret (r := (zN, t.f3, 4)) (v4 := .slice none 0 0) ?_ ?_ ?_ k1 (Kd.R_nil _ _ _ _ _) k2
            · rfl
            · rfl
            · rfl
          · have b1 : (((m : Int) + 1) == 1) = false := beq_eq_false_iff_ne.2 (by omega)
            clear hfull
            have hmb : m ≤ 1000 := by have := HM.out; have := HO.out.2.1; have := HN.out; omega
            clear q0 q1 q2 q3 q4 f0 f1 f2 f3 f4
            go_wp2_with (go_at_call 45; refine (HD.out _).mono ?_; rintro e2 W2 ⟨rfl, hB2⟩; have KB2 := Aside0.mk (below_step (below_alloc (Below.refl wr.heap.size wr) _) hB2); have htop2 := pw_cell_below KB2.out htop; have tb := blk_below (blk_new wr (.cells #[.int .i64 t.f0, .string t.f1, .int .i64 t.f2, .int .i64 t.f3] 29)) hB2; have TB := Aside0.mk tb; have tb0 := (blk_cell tb 0).trans rfl; have tb1 := (blk_cell tb 1).trans rfl; have tb2 := (blk_cell tb 2).trans rfl; have tb3 : W2.cell? ⟨wr.heap.size, 3, none⟩ = some (.int .i64 t.f3) := (blk_cell tb 3).trans rfl; have bx2 := blk_below HBX.out KB2.out; have BX2 := Aside0.mk bx2; have r0 := (blk_cell bx2 0).trans rfl; have r1 := (blk_cell bx2 1).trans rfl; have r2 := (blk_cell bx2 2).trans rfl; have r3 := (blk_cell bx2 3).trans rfl; have r4 := (blk_cell bx2 4).trans rfl; have s0 := blk_frozen bx2 0; have s1 := blk_frozen bx2 1; have s2 := blk_frozen bx2 2; have s3 := blk_frozen bx2 3; have s4 := blk_frozen bx2 4; clear hB2 tb bx2 htop)
            refine start_ (n := 6) (S := fun V => V.cell? ⟨wr.heap.size, 3, none⟩ = some (.int .i64 t.f3)) (ds := []) #[false, false, false, false, false, false] (by kernel_rfl) rfl rfl tb3 (fun hHeld => ?_)
            refine pure_ (i := 0) (N := some 83) (v := ?_) (a' := ?_) #[true, false, false, false, false, false] rfl rfl (by kernel_rfl) (fun _ _ _ h => h) (Or.inl ⟨by rfl, ?_⟩) ?_ ?_
            rotate_left
            · intro w'
              go_simp
              try with_reducible rfl
            rotate_left
            · simp only [Act.put, List.setIfInBounds_toArray, List.set_cons_zero, List.set_cons_succ]
              rfl
            refine pure_ (i := 1) (N := some 84) (v := ?_) (a' := ?_) #[true, true, false, false, false, false] rfl rfl (by kernel_rfl) (fun _ _ _ h => h) (Or.inl ⟨by rfl, ?_⟩) ?_ ?_
            rotate_left
            · intro w'
              go_simp
              try with_reducible rfl
            rotate_left
            · simp only [Act.put, List.setIfInBounds_toArray, List.set_cons_zero, List.set_cons_succ]
              rfl
            refine take_ (i := 2) (N := some 85) (v := ?_) (a' := ?_) #[true, true, true, false, false, false] rfl rfl (by kernel_rfl) (fun _ _ _ h => h) (Or.inl ⟨by rfl, ?_⟩) hHeld ?_ ?_
            rotate_left
            · intro w' hS_
              try dsimp only at hS_
              go_simp
              try with_reducible rfl
            rotate_left
            · simp only [Act.put, List.setIfInBounds_toArray, List.set_cons_zero, List.set_cons_succ]
              rfl
            refine one_ (i := 3) (N := none) #[true, true, true, true, false, false] rfl rfl (by kernel_rfl) (by decide) (fun K hK => ?_)
            go_simp
            refine hK.out _ _ (drew_cell ((blk_cell ((set5_far W2 w.heap.size wr.heap.size HNE.out (.int .i64 0) (.string ⟨#[]⟩) (.int .i64 0) (.int .i64 0) (.slice none 0 0)).trans TB.out) 3).trans rfl)) (fun hHeld => ?_)
            clear hK K
            refine one_ (i := 4) (N := some 3) #[true, true, true, true, true, false] rfl rfl (by kernel_rfl) (by decide) (fun K hK => ?_)
            go_simp
            refine hK.out _ _ hHeld (fun hHeld => ?_)
            clear hK K
            refine one_ (i := 5) (N := some 4) #[true, true, true, true, true, true] rfl rfl (by kernel_rfl) (by decide) (fun K hK => ?_)
            go_simp
            refine hK.out _ _ hHeld (fun hHeld => ?_)
            clear hK K
            refine done_ (by kernel_rfl) ?_
            go_wp2
            rw [hV.out]
            have k1 := drew_blk (box_put5 (V := W2) BX2.out (.int .i64 0) (.string ⟨#[]⟩) (.int .i64 0) (.int .i64 0) (.slice none 0 0))
            have k2 := below_drew1 (set5_below (g := w.heap.size) (below_step HW.out KB2.out) (Nat.le_refl _) (.int .i64 0) (.string ⟨#[]⟩) (.int .i64 0) (.int .i64 0) (.slice none 0 0))
            refine sexpParse_ret (r := (zN, t.f3, 4)) (v4 := .slice none 0 0) ?_ ?_ ?_ k1 (Kd.R_nil _ _ _ _ _) k2
            · rfl
            · rfl
            · rfl
        · by_cases hd2 : doesI t = 2 ∧ st.length = 1
          · have hR : Aside0 (R = .inr (t.f3, 4)) := ⟨by rw [← HP.out, parseL, if_neg hfull, if_neg hd3, if_pos hd2]⟩
            have hV : Aside0 (parseEnd s.size (parseL l [zN]) = (zN, t.f3, 4)) := ⟨by rw [HRE.out, hR.out, parseEnd]⟩
            rw [hd2.1] at HD
            have b2 : (((topN st).f4.length : Int) == 1) = false := beq_eq_false_iff_ne.2 (by have := HM.out; omega)
            have hm0 : m = 0 := by have := HM.out; omega
            clear HP hd3 hfull hd2
            subst hm0
            simp only [Nat.zero_mul, Nat.zero_add] at htop
            clear q0 q1 q2 q3 q4 f0 f1 f2 f3 f4
            go_wp2_with (go_at_call 45; refine (HD.out _).mono ?_; rintro e2 W2 ⟨rfl, hB2⟩; have KB2 := Aside0.mk (below_step (below_alloc (Below.refl wr.heap.size wr) _) hB2); have htop2 := pw_cell_below KB2.out htop; have tb := blk_below (blk_new wr (.cells #[.int .i64 t.f0, .string t.f1, .int .i64 t.f2, .int .i64 t.f3] 29)) hB2; have TB := Aside0.mk tb; have tb0 := (blk_cell tb 0).trans rfl; have tb1 := (blk_cell tb 1).trans rfl; have tb2 := (blk_cell tb 2).trans rfl; have tb3 : W2.cell? ⟨wr.heap.size, 3, none⟩ = some (.int .i64 t.f3) := (blk_cell tb 3).trans rfl; have bx2 := blk_below HBX.out KB2.out; have BX2 := Aside0.mk bx2; have r0 := (blk_cell bx2 0).trans rfl; have r1 := (blk_cell bx2 1).trans rfl; have r2 := (blk_cell bx2 2).trans rfl; have r3 := (blk_cell bx2 3).trans rfl; have r4 := (blk_cell bx2 4).trans rfl; have s0 := blk_frozen bx2 0; have s1 := blk_frozen bx2 1; have s2 := blk_frozen bx2 2; have s3 := blk_frozen bx2 3; have s4 := blk_frozen bx2 4; clear hB2 tb bx2 htop)
            refine start_ (n := 6) (S := fun V => V.cell? ⟨wr.heap.size, 3, none⟩ = some (.int .i64 t.f3)) (ds := []) #[false, false, false, false, false, false] (by kernel_rfl) rfl rfl tb3 (fun hHeld => ?_)
            refine pure_ (i := 0) (N := some 83) (v := ?_) (a' := ?_) #[true, false, false, false, false, false] rfl rfl (by kernel_rfl) (fun _ _ _ h => h) (Or.inl ⟨by rfl, ?_⟩) ?_ ?_
            rotate_left
            · intro w'
              go_simp
              try with_reducible rfl
            rotate_left
            · simp only [Act.put, List.setIfInBounds_toArray, List.set_cons_zero, List.set_cons_succ]
              rfl
            refine pure_ (i := 1) (N := some 84) (v := ?_) (a' := ?_) #[true, true, false, false, false, false] rfl rfl (by kernel_rfl) (fun _ _ _ h => h) (Or.inl ⟨by rfl, ?_⟩) ?_ ?_
            rotate_left
            · intro w'
              go_simp
              try with_reducible rfl
            rotate_left
            · simp only [Act.put, List.setIfInBounds_toArray, List.set_cons_zero, List.set_cons_succ]
              rfl
            refine take_ (i := 2) (N := some 85) (v := ?_) (a' := ?_) #[true, true, true, false, false, false] rfl rfl (by kernel_rfl) (fun _ _ _ h => h) (Or.inl ⟨by rfl, ?_⟩) hHeld ?_ ?_
            rotate_left
            · intro w' hS_
              try dsimp only at hS_
              go_simp
              try with_reducible rfl
            rotate_left
            · simp only [Act.put, List.setIfInBounds_toArray, List.set_cons_zero, List.set_cons_succ]
              rfl
            refine one_ (i := 3) (N := none) #[true, true, true, true, false, false] rfl rfl (by kernel_rfl) (by decide) (fun K hK => ?_)
            go_simp
            refine hK.out _ _ (drew_cell ((blk_cell ((set5_far W2 w.heap.size wr.heap.size HNE.out (.int .i64 0) (.string ⟨#[]⟩) (.int .i64 0) (.int .i64 0) (.slice none 0 0)).trans TB.out) 3).trans rfl)) (fun hHeld => ?_)
            clear hK K
            refine one_ (i := 4) (N := some 3) #[true, true, true, true, true, false] rfl rfl (by kernel_rfl) (by decide) (fun K hK => ?_)
            go_simp
            refine hK.out _ _ hHeld (fun hHeld => ?_)
            clear hK K
            refine one_ (i := 5) (N := some 4) #[true, true, true, true, true, true] rfl rfl (by kernel_rfl) (by decide) (fun K hK => ?_)
            go_simp
            refine hK.out _ _ hHeld (fun hHeld => ?_)
            clear hK K
            refine done_ (by kernel_rfl) ?_
            go_wp2
            rw [hV.out]
            have k1 := drew_blk (box_put5 (V := W2) BX2.out (.int .i64 0) (.string ⟨#[]⟩) (.int .i64 0) (.int .i64 0) (.slice none 0 0))
            have k2 := below_drew1 (set5_below (g := w.heap.size) (below_step HW.out KB2.out) (Nat.le_refl _) (.int .i64 0) (.string ⟨#[]⟩) (.int .i64 0) (.int .i64 0) (.slice none 0 0))
            refine sexpParse_ret (r := (zN, t.f3, 4)) (v4 := .slice none 0 0) ?_ ?_ ?_ k1 (Kd.R_nil _ _ _ _ _) k2
            · rfl
            · rfl
            · rfl
          · by_cases hd1 : doesI t = 1
            · by_cases hL : 16 < st.length
              · have hR : Aside0 (R = .inr (t.f3, 2)) := ⟨by rw [← HP.out, parseL, if_neg hfull, if_neg hd3, if_neg hd2, if_pos (show doesI t = 1 ∧ st.length > 16 from ⟨hd1, hL⟩)]⟩
                have hV : Aside0 (parseEnd s.size (parseL l [zN]) = (zN, t.f3, 2)) := ⟨by rw [HRE.out, hR.out, parseEnd]⟩
                rw [hd1] at HD
                have b1 : (((m : Int) + 1) == 1) = false := beq_eq_false_iff_ne.2 (by have := HM.out; omega)
                have b3 : decide (16 < (m : Int) + 1) = true := decide_eq_true (by have := HM.out; omega)
                have hmb : m ≤ 1000 := by have := HM.out; have := HO.out.2.1; have := HN.out; omega
                clear HP hd3 hfull hd2 hd1 hL
                clear q0 q1 q2 q3 q4 f0 f1 f2 f3 f4
                go_wp2_with (go_at_call 45; refine (HD.out _).mono ?_; rintro e2 W2 ⟨rfl, hB2⟩; have KB2 := Aside0.mk (below_step (below_alloc (Below.refl wr.heap.size wr) _) hB2); have htop2 := pw_cell_below KB2.out htop; have tb := blk_below (blk_new wr (.cells #[.int .i64 t.f0, .string t.f1, .int .i64 t.f2, .int .i64 t.f3] 29)) hB2; have TB := Aside0.mk tb; have tb0 := (blk_cell tb 0).trans rfl; have tb1 := (blk_cell tb 1).trans rfl; have tb2 := (blk_cell tb 2).trans rfl; have tb3 : W2.cell? ⟨wr.heap.size, 3, none⟩ = some (.int .i64 t.f3) := (blk_cell tb 3).trans rfl; have bx2 := blk_below HBX.out KB2.out; have BX2 := Aside0.mk bx2; have r0 := (blk_cell bx2 0).trans rfl; have r1 := (blk_cell bx2 1).trans rfl; have r2 := (blk_cell bx2 2).trans rfl; have r3 := (blk_cell bx2 3).trans rfl; have r4 := (blk_cell bx2 4).trans rfl; have s0 := blk_frozen bx2 0; have s1 := blk_frozen bx2 1; have s2 := blk_frozen bx2 2; have s3 := blk_frozen bx2 3; have s4 := blk_frozen bx2 4; clear hB2 tb bx2 htop)
                refine start_ (n := 6) (S := fun V => V.cell? ⟨wr.heap.size, 3, none⟩ = some (.int .i64 t.f3)) (ds := []) #[false, false, false, false, false, false] (by kernel_rfl) rfl rfl tb3 (fun hHeld => ?_)
                refine pure_ (i := 0) (N := some 94) (v := ?_) (a' := ?_) #[true, false, false, false, false, false] rfl rfl (by kernel_rfl) (fun _ _ _ h => h) (Or.inl ⟨by rfl, ?_⟩) ?_ ?_
                rotate_left
                · intro w'
                  go_simp
                  try with_reducible rfl
                rotate_left
                · simp only [Act.put, List.setIfInBounds_toArray, List.set_cons_zero, List.set_cons_succ]
                  rfl
                refine pure_ (i := 1) (N := some 95) (v := ?_) (a' := ?_) #[true, true, false, false, false, false] rfl rfl (by kernel_rfl) (fun _ _ _ h => h) (Or.inl ⟨by rfl, ?_⟩) ?_ ?_
                rotate_left
                · intro w'
                  go_simp
                  try with_reducible rfl
                rotate_left
                · simp only [Act.put, List.setIfInBounds_toArray, List.set_cons_zero, List.set_cons_succ]
                  rfl
                refine take_ (i := 2) (N := some 96) (v := ?_) (a' := ?_) #[true, true, true, false, false, false] rfl rfl (by kernel_rfl) (fun _ _ _ h => h) (Or.inl ⟨by rfl, ?_⟩) hHeld ?_ ?_
                rotate_left
                · intro w' hS_
                  try dsimp only at hS_
                  go_simp
                  try with_reducible rfl
                rotate_left
                · simp only [Act.put, List.setIfInBounds_toArray, List.set_cons_zero, List.set_cons_succ]
                  rfl
                refine one_ (i := 3) (N := none) #[true, true, true, true, false, false] rfl rfl (by kernel_rfl) (by decide) (fun K hK => ?_)
                go_simp
                refine hK.out _ _ (drew_cell ((blk_cell ((set5_far W2 w.heap.size wr.heap.size HNE.out (.int .i64 0) (.string ⟨#[]⟩) (.int .i64 0) (.int .i64 0) (.slice none 0 0)).trans TB.out) 3).trans rfl)) (fun hHeld => ?_)
                clear hK K
                refine one_ (i := 4) (N := some 3) #[true, true, true, true, true, false] rfl rfl (by kernel_rfl) (by decide) (fun K hK => ?_)
                go_simp
                refine hK.out _ _ hHeld (fun hHeld => ?_)
                clear hK K
                refine one_ (i := 5) (N := some 4) #[true, true, true, true, true, true] rfl rfl (by kernel_rfl) (by decide) (fun K hK => ?_)
                go_simp
                refine hK.out _ _ hHeld (fun hHeld => ?_)
                clear hK K
                refine done_ (by kernel_rfl) ?_
                go_wp2
                rw [hV.out]
                have k1 := drew_blk (box_put5 (V := W2) BX2.out (.int .i64 0) (.string ⟨#[]⟩) (.int .i64 0) (.int .i64 0) (.slice none 0 0))
                have k2 := below_drew1 (set5_below (g := w.heap.size) (below_step HW.out KB2.out) (Nat.le_refl _) (.int .i64 0) (.string ⟨#[]⟩) (.int .i64 0) (.int .i64 0) (.slice none 0 0))
                refine sexpParse_ret (r := (zN, t.f3, 2)) (v4 := .slice none 0 0) ?_ ?_ ?_ k1 (Kd.R_nil _ _ _ _ _) k2
                · rfl
                · rfl
                · rfl
              · have HP2 : Aside0 (parseL (l.drop (i + 1)) (st ++ [⟨4, ⟨#[]⟩, 0, t.f3, []⟩]) = R) := ⟨by rw [← HP.out]; symm; rw [parseL, if_neg hfull, if_neg hd3, if_neg hd2, if_neg (show ¬ (doesI t = 1 ∧ st.length > 16) from fun h => hL h.2), if_pos hd1]⟩
                have HO2 : Aside0 (stOk (i + 1) (st ++ [⟨4, ⟨#[]⟩, 0, t.f3, []⟩])) := ⟨stOk_push i st _ HO.out rfl⟩
                have HLEN : Aside0 ((st.length + 1) * 64 ≤ 140737488355328) := ⟨by have := HO.out.2.1; have := HN.out; omega⟩
                rw [hd1] at HD
                have hmb : m ≤ 1000 := by have := HM.out; have := HO.out.2.1; have := HN.out; omega
                clear HP
                by_cases hm0 : m = 0
                · have b2 : (((topN st).f4.length : Int) == 1) = false := beq_eq_false_iff_ne.2 (by have := HM.out; omega)
                  clear hfull hd3 hd2 hd1 hL hmb
                  subst hm0
                  simp only [Nat.zero_mul, Nat.zero_add] at htop
                  clear q0 q1 q2 q3 q4 f0 f1 f2 f3 f4
                  go_wp2_with (first | (go_at_call 45; refine (HD.out _).mono ?_; rintro e2 W2 ⟨rfl, hB2⟩; have KB2 := Aside0.mk (below_step (below_alloc (Below.refl wr.heap.size wr) _) hB2); have htop2 := pw_cell_below KB2.out htop; have tb := blk_below (blk_new wr (.cells #[.int .i64 t.f0, .string t.f1, .int .i64 t.f2, .int .i64 t.f3] 29)) hB2; have TB := Aside0.mk tb; have tb0 := (blk_cell tb 0).trans rfl; have tb1 := (blk_cell tb 1).trans rfl; have tb2 := (blk_cell tb 2).trans rfl; have tb3 : W2.cell? ⟨wr.heap.size, 3, none⟩ = some (.int .i64 t.f3) := (blk_cell tb 3).trans rfl; have bx2 := blk_below HBX.out KB2.out; have BX2 := Aside0.mk bx2; have r0 := (blk_cell bx2 0).trans rfl; have r1 := (blk_cell bx2 1).trans rfl; have r2 := (blk_cell bx2 2).trans rfl; have r3 := (blk_cell bx2 3).trans rfl; have r4 := (blk_cell bx2 4).trans rfl; have s0 := blk_frozen bx2 0; have s1 := blk_frozen bx2 1; have s2 := blk_frozen bx2 2; have s3 := blk_frozen bx2 3; have s4 := blk_frozen bx2 4; have HS2 : Aside0 (Kd.S k39 39 W2 W1.heap.size (fun k => True ∧ ¬ False) (.slice (some ⟨g, 0, none⟩) st.length cap) st) := ⟨Kd.S_mono (Kd.S_below HS.out KB2.out) (fun _ _ => ⟨trivial, fun h => h⟩)⟩; rw [HM.out] at HS2; have HBW := Aside0.mk (below_step HBl.out KB2.out); have HSZ := Aside0.mk (Nat.le_trans HBl.out.size KB2.out.size); clear hB2 tb bx2 htop r0 r1 r2 r3 r4 s0 s1 s2 s3 s4) | ((with_reducible refine gate_builtin (b := .append) (xs := #[.tmp 100, .tmp 104]) rfl ?_); at_builtin; refine Kd.S_append k39 (w0 := W1) W1.heap.size rfl (.tmp 100) (.tmp 104) 37 39 (.agg #[(.int .i64 0), (.string ⟨#[]⟩), (.int .i64 0), (.int .i64 0), (.slice none 0 0)]) 64 rfl Tryd.underlying37 info39 rfl (by decide) (by decide) _ st ⟨4, ⟨#[]⟩, 0, t.f3, []⟩ [.int .i64 4, .string ⟨#[]⟩, .int .i64 0, .int .i64 t.f3, .slice none 0 0] (fun _ => True) (fun _ => False) rfl rfl (k39_mkM _ _ _ _ (Kd.R_nil _ _ _ _ _)) (fun _ hk => hk.elim) (fun _ _ => trivial) HS2.out HBW.out HSZ.out HLEN.out ?_; intro v1 w1 hS1 hB1 hg1 hat; obtain ⟨g1, cap1, rfl, _⟩ := Kd.R_form (Kd.S_R hS1) (by simp); have HS1 := Aside0.mk hS1; have HB1 := Aside0.mk hB1; clear hS1 hB1 hg1 hat))
                  go_roundg (l.length - (i + 1))
                  case measure => have := HN.out; omega
                  case rel => exact ⟨i + 1, _, g1, cap1, by go_num, by simp, HP2, HS1, HB1, ⟨by omega⟩, HO2⟩
                · have b1 : (((m : Int) + 1) == 1) = false := beq_eq_false_iff_ne.2 (by omega)
                  have b3 : decide (16 < (m : Int) + 1) = false := decide_eq_false (by have := HM.out; omega)
                  clear hfull hd3 hd2 hd1 hL
                  clear q0 q1 q2 q3 q4 f0 f1 f2 f3 f4
                  go_wp2_with (first | (go_at_call 45; refine (HD.out _).mono ?_; rintro e2 W2 ⟨rfl, hB2⟩; have KB2 := Aside0.mk (below_step (below_alloc (Below.refl wr.heap.size wr) _) hB2); have htop2 := pw_cell_below KB2.out htop; have tb := blk_below (blk_new wr (.cells #[.int .i64 t.f0, .string t.f1, .int .i64 t.f2, .int .i64 t.f3] 29)) hB2; have TB := Aside0.mk tb; have tb0 := (blk_cell tb 0).trans rfl; have tb1 := (blk_cell tb 1).trans rfl; have tb2 := (blk_cell tb 2).trans rfl; have tb3 : W2.cell? ⟨wr.heap.size, 3, none⟩ = some (.int .i64 t.f3) := (blk_cell tb 3).trans rfl; have bx2 := blk_below HBX.out KB2.out; have BX2 := Aside0.mk bx2; have r0 := (blk_cell bx2 0).trans rfl; have r1 := (blk_cell bx2 1).trans rfl; have r2 := (blk_cell bx2 2).trans rfl; have r3 := (blk_cell bx2 3).trans rfl; have r4 := (blk_cell bx2 4).trans rfl; have s0 := blk_frozen bx2 0; have s1 := blk_frozen bx2 1; have s2 := blk_frozen bx2 2; have s3 := blk_frozen bx2 3; have s4 := blk_frozen bx2 4; have HS2 : Aside0 (Kd.S k39 39 W2 W1.heap.size (fun k => True ∧ ¬ False) (.slice (some ⟨g, 0, none⟩) st.length cap) st) := ⟨Kd.S_mono (Kd.S_below HS.out KB2.out) (fun _ _ => ⟨trivial, fun h => h⟩)⟩; rw [HM.out] at HS2; have HBW := Aside0.mk (below_step HBl.out KB2.out); have HSZ := Aside0.mk (Nat.le_trans HBl.out.size KB2.out.size); clear hB2 tb bx2 htop r0 r1 r2 r3 r4 s0 s1 s2 s3 s4) | ((with_reducible refine gate_builtin (b := .append) (xs := #[.tmp 100, .tmp 104]) rfl ?_); at_builtin; refine Kd.S_append k39 (w0 := W1) W1.heap.size rfl (.tmp 100) (.tmp 104) 37 39 (.agg #[(.int .i64 0), (.string ⟨#[]⟩), (.int .i64 0), (.int .i64 0), (.slice none 0 0)]) 64 rfl Tryd.underlying37 info39 rfl (by decide) (by decide) _ st ⟨4, ⟨#[]⟩, 0, t.f3, []⟩ [.int .i64 4, .string ⟨#[]⟩, .int .i64 0, .int .i64 t.f3, .slice none 0 0] (fun _ => True) (fun _ => False) rfl rfl (k39_mkM _ _ _ _ (Kd.R_nil _ _ _ _ _)) (fun _ hk => hk.elim) (fun _ _ => trivial) HS2.out HBW.out HSZ.out HLEN.out ?_; intro v1 w1 hS1 hB1 hg1 hat; obtain ⟨g1, cap1, rfl, _⟩ := Kd.R_form (Kd.S_R hS1) (by simp); have HS1 := Aside0.mk hS1; have HB1 := Aside0.mk hB1; clear hS1 hB1 hg1 hat))
                  go_roundg (l.length - (i + 1))
                  case measure => have := HN.out; omega
                  case rel => exact ⟨i + 1, _, g1, cap1, by go_num, by simp, HP2, HS1, HB1, ⟨by omega⟩, HO2⟩
            · by_cases hd0 : doesI t = 2
              · have hSt : stOk (i + 1) (addTop (st.take (st.length - 1)) (topN st)) := stOk_pop i st _ HO.out (by have := HO.out.1; have h9 : ¬ st.length = 1 := fun h => hd2 ⟨hd0, h⟩; omega)
                have hP2 : parseL (l.drop (i + 1)) (addTop (st.take (st.length - 1)) (topN st)) = R := by rw [← HP.out]; symm; rw [parseL, if_neg hfull, if_neg hd3, if_neg hd2, if_neg (show ¬ (doesI t = 1 ∧ st.length > 16) from fun h => hd1 h.1), if_neg hd1, if_pos hd0]
                obtain ⟨q, rfl⟩ : ∃ q, m = q + 1 := ⟨m - 1, by have := HM.out; have h9 : ¬ st.length = 1 := fun h => hd2 ⟨hd0, h⟩; omega⟩
                have hqb : q ≤ 1000 := by have := HM.out; have := HO.out.2.1; have := HN.out; omega
                have hlen : ((topN (st.take (st.length - 1))).f4.length + 1) * 64 ≤ 140737488355328 := by have h8 : topN (st.take (st.length - 1)) ∈ st := List.mem_of_mem_take (topN_mem _ (by rw [List.length_take]; have := HM.out; omega)); have := HO.out.2.2 _ h8; have := HN.out; omega
                rw [hd0] at HD
                have hsl : st.length - 1 = q + 1 := by have := HM.out; omega
                rw [hsl] at hSt hP2 hlen
                obtain ⟨sq, hsq⟩ : ∃ sq, st.take (q + 1) = sq := ⟨_, rfl⟩
                obtain ⟨tx, htx⟩ : ∃ tx, topN st = tx := ⟨_, rfl⟩
                have hMQ : sq.length = q + 1 := by rw [← hsq, List.length_take]; have := HM.out; omega
                rw [hsq, htx] at hSt hP2
                rw [hsq] at hlen
                have HO2 := Aside0.mk hSt
                have HP2 := Aside0.mk hP2
                have HLEN := Aside0.mk hlen
                have HSQ := Aside0.mk hsq
                have HTX := Aside0.mk htx
                have HMQ := Aside0.mk hMQ
                have b1 : (((q : Int) + 1 + 1) == 1) = false := beq_eq_false_iff_ne.2 (by omega)
                clear HP hfull hd3 hd2 hd1 hd0 hSt hP2 hlen hsl hsq htx hMQ
                clear q0 q1 q2 q3 q4 f0 f1 f2 f3 f4
                have hqc : (q : Int) + 1 ≤ (cap : Int) := by have := row_cap (Kd.S_R HS.out); have := HM.out; omega
                go_wp2_with (go_at_call 45; refine (HD.out _).mono ?_; rintro e2 W2 ⟨rfl, hB2⟩; have KB2 := Aside0.mk (below_step (below_alloc (Below.refl wr.heap.size wr) _) hB2); have tb := blk_below (blk_new wr (.cells #[.int .i64 t.f0, .string t.f1, .int .i64 t.f2, .int .i64 t.f3] 29)) hB2; have TB := Aside0.mk tb; have tb0 := (blk_cell tb 0).trans rfl; have tb1 := (blk_cell tb 1).trans rfl; have tb2 := (blk_cell tb 2).trans rfl; have tb3 : W2.cell? ⟨wr.heap.size, 3, none⟩ = some (.int .i64 t.f3) := (blk_cell tb 3).trans rfl; have bx2 := blk_below HBX.out KB2.out; have BX2 := Aside0.mk bx2; have r0 := (blk_cell bx2 0).trans rfl; have r1 := (blk_cell bx2 1).trans rfl; have r2 := (blk_cell bx2 2).trans rfl; have r3 := (blk_cell bx2 3).trans rfl; have r4 := (blk_cell bx2 4).trans rfl; have s0 := blk_frozen bx2 0; have s1 := blk_frozen bx2 1; have s2 := blk_frozen bx2 2; have s3 := blk_frozen bx2 3; have s4 := blk_frozen bx2 4; have hSd := Kd.S_below HS.out KB2.out; rw [HM.out] at hSd; obtain ⟨okp, okw, okx, A4, A5, c4, c5, hnew, hR4, hcell, hM5, hc5, hpx, hwx, hH⟩ := pop_open hSd HM.out rfl; rw [HSQ.out] at hR4 hcell hH; rw [HTX.out] at hM5 hc5; have g0 : W2.cell? ⟨g, (q + 1) * 5, none⟩ = _ := hc5 0 _ rfl; have g1 := hc5 1 _ rfl; have g2 := hc5 2 _ rfl; have g3 := hc5 3 _ rfl; have g4 := hc5 4 _ rfl; have HNEW := Aside0.mk hnew; have HR4 := Aside0.mk hR4; have HCELL := Aside0.mk hcell; have HM5 := Aside0.mk hM5; have HPX := Aside0.mk hpx; have HWX := Aside0.mk hwx; have HHO := Aside0.mk hH; have HBW := Aside0.mk (below_step HBl.out KB2.out); have HSZ := Aside0.mk (below_size HBW.out); clear hB2 tb bx2 htop r0 r1 r2 r3 r4 s0 s1 s2 s3 s4 hSd hnew hR4 hcell hM5 hc5 hpx hwx hH)
                have KB3 : Aside0 (Below W2.heap.size W2 (W2.alloc (.cells #[.int .i64 tx.f0, .string tx.f1, .int .i64 tx.f2, .int .i64 tx.f3, .slice A5 tx.f4.length c5] 39 (0, 0))).drew) := ⟨below_drew1 (below_alloc (Below.refl _ _) _)⟩
                have tbx := blk_new W2 (.cells #[.int .i64 tx.f0, .string tx.f1, .int .i64 tx.f2, .int .i64 tx.f3, .slice A5 tx.f4.length c5] 39 (0, 0))
                generalize W2.alloc (.cells #[.int .i64 tx.f0, .string tx.f1, .int .i64 tx.f2, .int .i64 tx.f3, .slice A5 tx.f4.length c5] 39 (0, 0)) = W3 at *
                have KR4 := Aside0.mk (Kd.R_below HR4.out KB3.out)
                have KM5 := Aside0.mk (Kd.M_below HM5.out KB3.out)
                have KHO := Aside0.mk (Kd.H_below HHO.out KB3.out)
                have KNEW : Aside0 (∀ k, W3.drew.heap.size ≤ k → okw k) := ⟨fun k hk => HNEW.out k (Nat.le_trans KB3.out.size hk)⟩
                have KBW := Aside0.mk (below_step HBW.out KB3.out)
                have KSZ := Aside0.mk (below_size KBW.out)
                have KCELL := Aside0.mk (pw_cell_below KB3.out HCELL.out)
                have KX := Aside0.mk (And.intro ((blk_cell tbx 0).trans rfl : _ = some (Value.int .i64 tx.f0)) (And.intro ((blk_cell tbx 1).trans rfl : _ = some (Value.string tx.f1)) (And.intro ((blk_cell tbx 2).trans rfl : _ = some (Value.int .i64 tx.f2)) (And.intro ((blk_cell tbx 3).trans rfl : _ = some (Value.int .i64 tx.f3)) ((blk_cell tbx 4).trans rfl : _ = some (Value.slice A5 tx.f4.length c5))))))
                clear HR4 HM5 HHO HNEW HBW HSZ HCELL tbx g0 g1 g2 g3 g4
                refine start_ (n := 13) (S := fun V => V.cell? ⟨W2.heap.size, 0, none⟩ = some (.int .i64 tx.f0) ∧ V.cell? ⟨W2.heap.size, 1, none⟩ = some (.string tx.f1) ∧ V.cell? ⟨W2.heap.size, 2, none⟩ = some (.int .i64 tx.f2) ∧ V.cell? ⟨W2.heap.size, 3, none⟩ = some (.int .i64 tx.f3) ∧ V.cell? ⟨W2.heap.size, 4, none⟩ = some (.slice A5 tx.f4.length c5) ∧ V.cell? ⟨g, q * 5 + 4, none⟩ = some (.slice A4 (topN sq).f4.length c4)) (ds := [7, 9, 12]) #[false, false, false, false, false, false, false, false, false, false, false, false, false] (by kernel_rfl) rfl rfl ⟨KX.out.1, KX.out.2.1, KX.out.2.2.1, KX.out.2.2.2.1, KX.out.2.2.2.2, KCELL.out⟩ (fun hHeld => ?_)
                refine pure_ (i := 0) (N := some 122) (v := ?_) (a' := ?_) #[true, false, false, false, false, false, false, false, false, false, false, false, false] rfl rfl (by kernel_rfl) (fun _ _ _ h => h) (Or.inl ⟨by rfl, ?_⟩) ?_ ?_
                rotate_left
                · intro w'
                  go_simp
                  try with_reducible rfl
                rotate_left
                · simp only [Act.put, List.setIfInBounds_toArray, List.set_cons_zero, List.set_cons_succ]
                  rfl
                refine pure_ (i := 1) (N := some 123) (v := ?_) (a' := ?_) #[true, true, false, false, false, false, false, false, false, false, false, false, false] rfl rfl (by kernel_rfl) (fun _ _ _ h => h) (Or.inl ⟨by rfl, ?_⟩) ?_ ?_
                rotate_left
                · intro w'
                  go_simp
                  try with_reducible rfl
                rotate_left
                · simp only [Act.put, List.setIfInBounds_toArray, List.set_cons_zero, List.set_cons_succ]
                  rfl
                refine pure_ (i := 2) (N := some 124) (v := ?_) (a' := ?_) #[true, true, true, false, false, false, false, false, false, false, false, false, false] rfl rfl (by kernel_rfl) (fun _ _ _ h => h) (Or.inl ⟨by rfl, ?_⟩) ?_ ?_
                rotate_left
                · intro w'
                  go_simp
                  try with_reducible rfl
                rotate_left
                · simp only [Act.put, List.setIfInBounds_toArray, List.set_cons_zero, List.set_cons_succ]
                  rfl
                refine take_ (i := 3) (N := some 125) (v := ?_) (a' := ?_) #[true, true, true, true, false, false, false, false, false, false, false, false, false] rfl rfl (by kernel_rfl) (fun _ _ _ h => h) (Or.inl ⟨by rfl, ?_⟩) hHeld ?_ ?_
                rotate_left
                · intro w' hS_
                  obtain ⟨e0_, e1_, e2_, e3_, e4_, e5_⟩ := hS_
                  go_simp
                  try with_reducible rfl
                rotate_left
                · simp only [Act.put, List.setIfInBounds_toArray, List.set_cons_zero, List.set_cons_succ]
                  rfl
                refine take_ (i := 4) (N := some 126) (v := ?_) (a' := ?_) #[true, true, true, true, true, false, false, false, false, false, false, false, false] rfl rfl (by kernel_rfl) (fun _ _ _ h => h) (Or.inl ⟨by rfl, ?_⟩) hHeld ?_ ?_
                rotate_left
                · intro w' hS_
                  obtain ⟨e0_, e1_, e2_, e3_, e4_, e5_⟩ := hS_
                  go_simp
                  try with_reducible rfl
                rotate_left
                · simp only [Act.put, List.setIfInBounds_toArray, List.set_cons_zero, List.set_cons_succ]
                  rfl
                refine pure_ (i := 5) (N := some 127) (v := ?_) (a' := ?_) #[true, true, true, true, true, true, false, false, false, false, false, false, false] rfl rfl (by kernel_rfl) (fun _ _ _ h => h) (Or.inl ⟨by rfl, ?_⟩) ?_ ?_
                rotate_left
                · intro w'
                  go_simp
                  try with_reducible rfl
                rotate_left
                · simp only [Act.put, List.setIfInBounds_toArray, List.set_cons_zero, List.set_cons_succ]
                  rfl
                refine one_ (i := 6) (N := some 128) #[true, true, true, true, true, true, true, false, false, false, false, false, false] rfl rfl (by kernel_rfl) (by decide) (fun K hK => ?_)
                go_simp
                refine hK.out _ _ ?hS (fun hHeld => ?_)
                case hS => exact ⟨pw_cell_below (below_alloc (Below.refl _ _) _) hHeld.1, pw_cell_below (below_alloc (Below.refl _ _) _) hHeld.2.1, pw_cell_below (below_alloc (Below.refl _ _) _) hHeld.2.2.1, pw_cell_below (below_alloc (Below.refl _ _) _) hHeld.2.2.2.1, pw_cell_below (below_alloc (Below.refl _ _) _) hHeld.2.2.2.2.1, pw_cell_below (below_alloc (Below.refl _ _) _) hHeld.2.2.2.2.2⟩
                clear hK K
                refine last_ (i := 7) (N := some 129) #[true, true, true, true, true, true, true, true, false, false, false, false, false] rfl rfl (by kernel_rfl) (by decide) (fun K hK => ?_)
                refine Kd.R_append_step k39 (w0 := W1) W1.heap.size (by rfl) (.tmp 125) (.tmp 128) 37 39 (.agg #[(.int .i64 0), (.string ⟨#[]⟩), (.int .i64 0), (.int .i64 0), (.slice none 0 0)]) 64 rfl Tryd.underlying37 info39 rfl (by decide) (by decide) _ (topN sq).f4 zN [.int .i64 0, .string ⟨#[]⟩, .int .i64 0, .int .i64 0, .slice none 0 0] okw (fun _ => False) rfl rfl (zN_M _ _ _) (fun _ hk => hk.elim) KNEW.out KR4.out KBW.out KSZ.out HLEN.out ?_
                intro v1 w1 hR1 hB1 hg1 hat
                obtain ⟨h1, c1, he, hb1, hl1, _⟩ := Kd.R_form hR1 (by simp)
                simp only [List.length_append, List.length_cons, List.length_nil, Nat.zero_add] at he
                subst he
                have hH1 := Kd.H_grown KHO.out hg1 (fun k hk => HWX.out k (KR4.out.1 k hk))
                obtain ⟨⟨curg, hcg, hfg⟩, hng⟩ := hole_row hH1
                obtain ⟨curh, hch, hfh⟩ := row_at hR1
                have hne : h1 ≠ g := fun he => hng (he ▸ HWX.out h1 (hR1.1 h1 (by simp [Value.ownBlock])))
                have HM1 := Aside0.mk (Kd.M_step KM5.out (fun k hk hlt => hg1.block k hlt (fun he => (HPX.out k hk).2.2 (KR4.out.1 k he.symm))))
                have HDX : Aside0 (∀ k, okp k → okx k ∧ k ≠ h1) := ⟨fun k hk => ⟨(HPX.out k hk).1, fun he => (HPX.out k hk).2.2 (he ▸ hR1.1 h1 (by simp [Value.ownBlock]))⟩⟩
                have HR1 := Aside0.mk hR1
                have HH1 := Aside0.mk hH1
                have HB1 := Aside0.mk hB1
                have HG := Aside0.mk (And.intro hcg hfg)
                have HC := Aside0.mk (And.intro hch hfh)
                have HNEG := Aside0.mk hne
                clear hR1 hH1 hB1 hg1 hat hcg hfg hch hfh hne hng
                refine hK.out _ _ ?_
                clear hK K
                refine norm_ (a' := ?_) ?_ ?_
                rotate_left
                · show Act.put _ (some 129) _ = _
                  simp only [Act.put, List.setIfInBounds_toArray, List.set_cons_zero, List.set_cons_succ]
                  rfl
                have hlt1 : ((topN sq).f4.length : Int) < ((topN sq).f4.length : Int) + 1 := Int.lt_succ _
                refine pure_ (i := 8) (N := some 130) (v := ?_) (a' := ?_) #[true, true, true, true, true, true, true, true, true, false, false, false, false] rfl rfl (by kernel_rfl) (fun _ _ _ h => h) (Or.inl ⟨by rfl, ?_⟩) ?_ ?_
                rotate_left
                · intro w'
                  go_simp
                  try with_reducible rfl
                rotate_left
                · simp only [Act.put, List.setIfInBounds_toArray, List.set_cons_zero, List.set_cons_succ]
                  rfl
                refine pure_ (i := 10) (N := some 131) (v := ?_) (a' := ?_) #[true, true, true, true, true, true, true, true, true, false, true, false, false] rfl rfl (by kernel_rfl) (fun _ _ _ h => h) (Or.inl ⟨by rfl, ?_⟩) ?_ ?_
                rotate_left
                · intro w'
                  go_simp
                  try with_reducible rfl
                rotate_left
                · simp only [Act.put, List.setIfInBounds_toArray, List.set_cons_zero, List.set_cons_succ]
                  rfl
                refine pure_ (i := 11) (N := some 132) (v := ?_) (a' := ?_) #[true, true, true, true, true, true, true, true, true, false, true, true, false] rfl rfl (by kernel_rfl) (fun _ _ _ h => h) (Or.inl ⟨by rfl, ?_⟩) ?_ ?_
                rotate_left
                · intro w'
                  go_simp
                  try with_reducible rfl
                rotate_left
                · simp only [Act.put, List.setIfInBounds_toArray, List.set_cons_zero, List.set_cons_succ]
                  rfl
                have HFIN : ∀ V, V = ((w1.setCells h1 ((topN sq).f4.length * 5) [.int .i64 tx.f0, .string tx.f1, .int .i64 tx.f2, .int .i64 tx.f3, .slice A5 tx.f4.length c5]).setCells g (q * 5 + 4) [.slice (some ⟨h1, 0, none⟩) ((topN sq).f4.length + 1) c1]) → Aside0 (StS V W1.heap.size g cap (addTop sq tx)) ∧ Aside0 (Below W1.heap.size W1 V) := by
                  rintro V rfl
                  have hS := top_put (m := q) HH1.out (Kd.R_mono HR1.out HWX.out) HM1.out rfl HDX.out HMQ.out rfl
                  refine ⟨⟨?_⟩, ⟨cells_below (Kd.S_base HS.out g (by simp [Value.ownBlock])) _ _ (cells_below hb1 _ _ HB1.out)⟩⟩
                  show Kd.S k39 39 _ _ _ (.slice (some ⟨g, 0, none⟩) (addTop sq tx).length cap) _
                  rw [addTop_len, HMQ.out]
                  exact hS
                refine wpAnyLast_ready (rs := [9, 12]) (by kernel_rfl) (by decide) (AllReadyL.cons_last (i := 9) rfl (by decide) (fun K hK => ?_) (AllReadyL.cons_last (i := 12) rfl (by decide) (fun K hK => ?_) AllReadyL.nil))
                · refine store_row (by rfl) rfl 39 (.tmp 130) (.tmp 126) rfl (g := h1) (seg := [.int .i64 tx.f0, .string tx.f1, .int .i64 tx.f2, .int .i64 tx.f3, .slice A5 tx.f4.length c5]) rfl rfl rfl (by kernel_rfl) HC.out.1 (by have := HC.out.2; have h5 : ((topN sq).f4.length + 1) * 5 ≤ curh.size := this; show (topN sq).f4.length * 5 + 5 ≤ curh.size; omega) (by simp [Value.oneCell']) ?_
                  refine hK.out _ _ ?_
                  clear hK K
                  refine last_ (i := 12) (N := none) #[true, true, true, true, true, true, true, true, true, true, true, true, true] rfl rfl (by kernel_rfl) (by decide) (fun K hK => ?_)
                  refine store_row (by rfl) rfl 37 (.tmp 132) (.tmp 129) rfl (g := g) (seg := [.slice (some ⟨h1, 0, none⟩) ((topN sq).f4.length + 1) c1]) rfl rfl rfl (by kernel_rfl) ((setCells_far _ _ g (Ne.symm HNEG.out)).trans HG.out.1) (by have := HG.out.2; have h5 : (q + 1) * 5 ≤ curg.size := this; show q * 5 + 4 + 1 ≤ curg.size; omega) (by simp [Value.oneCell']) ?_
                  refine hK.out _ _ ?_
                  clear hK K
                  refine done_ (by kernel_rfl) ?_
                  obtain ⟨hS9, hB9⟩ := HFIN _ (rfl)
                  clear HFIN
                  go_wp2
                  go_roundg (l.length - (i + 1))
                  case measure => have := HN.out; omega
                  case rel => exact ⟨i + 1, _, g, cap, by go_num, by rw [addTop_len, HMQ.out], HP2, hS9, hB9, ⟨by omega⟩, HO2⟩
                · refine store_row (by rfl) rfl 37 (.tmp 132) (.tmp 129) rfl (g := g) (seg := [.slice (some ⟨h1, 0, none⟩) ((topN sq).f4.length + 1) c1]) rfl rfl rfl (by kernel_rfl) HG.out.1 (by have := HG.out.2; have h5 : (q + 1) * 5 ≤ curg.size := this; show q * 5 + 4 + 1 ≤ curg.size; omega) (by simp [Value.oneCell']) ?_
                  refine hK.out _ _ ?_
                  clear hK K
                  refine last_ (i := 9) (N := none) #[true, true, true, true, true, true, true, true, true, true, true, true, true] rfl rfl (by kernel_rfl) (by decide) (fun K hK => ?_)
                  refine store_row (by rfl) rfl 39 (.tmp 130) (.tmp 126) rfl (g := h1) (seg := [.int .i64 tx.f0, .string tx.f1, .int .i64 tx.f2, .int .i64 tx.f3, .slice A5 tx.f4.length c5]) rfl rfl rfl (by kernel_rfl) ((setCells_far _ _ h1 HNEG.out).trans HC.out.1) (by have := HC.out.2; have h5 : ((topN sq).f4.length + 1) * 5 ≤ curh.size := this; show (topN sq).f4.length * 5 + 5 ≤ curh.size; omega) (by simp [Value.oneCell']) ?_
                  refine hK.out _ _ ?_
                  clear hK K
                  refine done_ (by kernel_rfl) ?_
                  obtain ⟨hS9, hB9⟩ := HFIN _ ((setCells_setCell (p := ⟨g, q * 5 + 4, none⟩) HNEG.out _ _ _ _).symm)
                  clear HFIN
                  go_wp2
                  go_roundg (l.length - (i + 1))
                  case measure => have := HN.out; omega
                  case rel => exact ⟨i + 1, _, g, cap, by go_num, by rw [addTop_len, HMQ.out], HP2, hS9, hB9, ⟨by omega⟩, HO2⟩
              · have hz : doesI t = 0 := by have := doesI_cases t; omega
                have HP2 : Aside0 (parseL (l.drop (i + 1)) (addTop st ⟨t.f0, t.f1, t.f2, t.f3, []⟩) = R) := ⟨by rw [← HP.out]; symm; rw [parseL, if_neg hfull, if_neg hd3, if_neg hd2, if_neg (show ¬ (doesI t = 1 ∧ st.length > 16) from fun h => hd1 h.1), if_neg hd1, if_neg hd0]⟩
                have HO2 : Aside0 (stOk (i + 1) (addTop st ⟨t.f0, t.f1, t.f2, t.f3, []⟩)) := ⟨stOk_add i st _ HO.out⟩
                have HLEN : Aside0 (((topN st).f4.length + 1) * 64 ≤ 140737488355328) := ⟨by have := HO.out.2.2 _ (topN_mem st HO.out.1); have := HN.out; omega⟩
                rw [hz] at HD
                have hmb : m ≤ 1000 := by have := HM.out; have := HO.out.2.1; have := HN.out; omega
                clear HP
                by_cases hm0 : m = 0
                · have b2 : (((topN st).f4.length : Int) == 1) = false := beq_eq_false_iff_ne.2 (by have := HM.out; omega)
                  clear hfull hd3 hd2 hd1 hd0 hz hmb
                  subst hm0
                  simp only [Nat.zero_mul, Nat.zero_add] at htop
                  clear q0 q1 q2 q3 q4 f0 f1 f2 f3 f4
                  go_wp2_with (go_at_call 45; refine (HD.out _).mono ?_; rintro e2 W2 ⟨rfl, hB2⟩; have KB2 := Aside0.mk (below_step (below_alloc (Below.refl wr.heap.size wr) _) hB2); have htop2 := pw_cell_below KB2.out htop; have tb := blk_below (blk_new wr (.cells #[.int .i64 t.f0, .string t.f1, .int .i64 t.f2, .int .i64 t.f3] 29)) hB2; have TB := Aside0.mk tb; have tb0 := (blk_cell tb 0).trans rfl; have tb1 := (blk_cell tb 1).trans rfl; have tb2 := (blk_cell tb 2).trans rfl; have tb3 : W2.cell? ⟨wr.heap.size, 3, none⟩ = some (.int .i64 t.f3) := (blk_cell tb 3).trans rfl; have bx2 := blk_below HBX.out KB2.out; have BX2 := Aside0.mk bx2; have r0 := (blk_cell bx2 0).trans rfl; have r1 := (blk_cell bx2 1).trans rfl; have r2 := (blk_cell bx2 2).trans rfl; have r3 := (blk_cell bx2 3).trans rfl; have r4 := (blk_cell bx2 4).trans rfl; have s0 := blk_frozen bx2 0; have s1 := blk_frozen bx2 1; have s2 := blk_frozen bx2 2; have s3 := blk_frozen bx2 3; have s4 := blk_frozen bx2 4; have hSd := Kd.S_below HS.out (below_drew1 KB2.out); rw [HM.out] at hSd; obtain ⟨okw, A5, c5, hnew, hR4, hcell, hH⟩ := top_open (m := 0) hSd HM.out rfl; have HNEW := Aside0.mk hnew; have HR4 := Aside0.mk hR4; have HCELL : W2.drew.cell? ⟨g, 4, none⟩ = some (.slice A5 (topN st).f4.length c5) := hcell; have HHO := Aside0.mk hH; have HBW := Aside0.mk (below_drew1 (below_step HBl.out KB2.out)); have HSZ := Aside0.mk (below_size HBW.out); have HHCELL := Aside0.mk HCELL; clear hB2 tb bx2 htop r0 r1 r2 r3 r4 s0 s1 s2 s3 s4 hSd hnew hR4 hH hcell)
                  refine start_ (n := 21) (S := fun V => V.cell? ⟨wr.heap.size, 0, none⟩ = some (.int .i64 t.f0) ∧ V.cell? ⟨wr.heap.size, 1, none⟩ = some (.string t.f1) ∧ V.cell? ⟨wr.heap.size, 2, none⟩ = some (.int .i64 t.f2) ∧ V.cell? ⟨wr.heap.size, 3, none⟩ = some (.int .i64 t.f3) ∧ V.cell? ⟨g, 4, none⟩ = some (.slice A5 (topN st).f4.length c5)) (ds := [15, 17, 20]) #[false, false, false, false, false, false, false, false, false, false, false, false, false, false, false, false, false, false, false, false, false] (by kernel_rfl) rfl rfl ⟨tb0, tb1, tb2, tb3, HHCELL.out⟩ (fun hHeld => ?_)
                  refine pure_ (i := 0) (N := some 53) (v := ?_) (a' := ?_) #[true, false, false, false, false, false, false, false, false, false, false, false, false, false, false, false, false, false, false, false, false] rfl rfl (by kernel_rfl) (fun _ _ _ h => h) (Or.inl ⟨by rfl, ?_⟩) ?_ ?_
                  rotate_left
                  · intro w'
                    go_simp
                    try with_reducible rfl
                  rotate_left
                  · simp only [Act.put, List.setIfInBounds_toArray, List.set_cons_zero, List.set_cons_succ]
                    rfl
                  refine pure_ (i := 1) (N := some 54) (v := ?_) (a' := ?_) #[true, true, false, false, false, false, false, false, false, false, false, false, false, false, false, false, false, false, false, false, false] rfl rfl (by kernel_rfl) (fun _ _ _ h => h) (Or.inl ⟨by rfl, ?_⟩) ?_ ?_
                  rotate_left
                  · intro w'
                    go_simp
                    try with_reducible rfl
                  rotate_left
                  · simp only [Act.put, List.setIfInBounds_toArray, List.set_cons_zero, List.set_cons_succ]
                    rfl
                  refine pure_ (i := 2) (N := some 55) (v := ?_) (a' := ?_) #[true, true, true, false, false, false, false, false, false, false, false, false, false, false, false, false, false, false, false, false, false] rfl rfl (by kernel_rfl) (fun _ _ _ h => h) (Or.inl ⟨by rfl, ?_⟩) ?_ ?_
                  rotate_left
                  · intro w'
                    go_simp
                    try with_reducible rfl
                  rotate_left
                  · simp only [Act.put, List.setIfInBounds_toArray, List.set_cons_zero, List.set_cons_succ]
                    rfl
                  refine take_ (i := 3) (N := some 56) (v := ?_) (a' := ?_) #[true, true, true, true, false, false, false, false, false, false, false, false, false, false, false, false, false, false, false, false, false] rfl rfl (by kernel_rfl) (fun _ _ _ h => h) (Or.inl ⟨by rfl, ?_⟩) hHeld ?_ ?_
                  rotate_left
                  · intro w' hS_
                    obtain ⟨e0_, e1_, e2_, e3_, e4_⟩ := hS_
                    go_simp
                    try with_reducible rfl
                  rotate_left
                  · simp only [Act.put, List.setIfInBounds_toArray, List.set_cons_zero, List.set_cons_succ]
                    rfl
                  refine pure_ (i := 4) (N := some 57) (v := ?_) (a' := ?_) #[true, true, true, true, true, false, false, false, false, false, false, false, false, false, false, false, false, false, false, false, false] rfl rfl (by kernel_rfl) (fun _ _ _ h => h) (Or.inl ⟨by rfl, ?_⟩) ?_ ?_
                  rotate_left
                  · intro w'
                    go_simp
                    try with_reducible rfl
                  rotate_left
                  · simp only [Act.put, List.setIfInBounds_toArray, List.set_cons_zero, List.set_cons_succ]
                    rfl
                  refine take_ (i := 5) (N := some 58) (v := ?_) (a' := ?_) #[true, true, true, true, true, true, false, false, false, false, false, false, false, false, false, false, false, false, false, false, false] rfl rfl (by kernel_rfl) (fun _ _ _ h => h) (Or.inl ⟨by rfl, ?_⟩) hHeld ?_ ?_
                  rotate_left
                  · intro w' hS_
                    obtain ⟨e0_, e1_, e2_, e3_, e4_⟩ := hS_
                    go_simp
                    try with_reducible rfl
                  rotate_left
                  · simp only [Act.put, List.setIfInBounds_toArray, List.set_cons_zero, List.set_cons_succ]
                    rfl
                  refine pure_ (i := 6) (N := some 59) (v := ?_) (a' := ?_) #[true, true, true, true, true, true, true, false, false, false, false, false, false, false, false, false, false, false, false, false, false] rfl rfl (by kernel_rfl) (fun _ _ _ h => h) (Or.inl ⟨by rfl, ?_⟩) ?_ ?_
                  rotate_left
                  · intro w'
                    go_simp
                    try with_reducible rfl
                  rotate_left
                  · simp only [Act.put, List.setIfInBounds_toArray, List.set_cons_zero, List.set_cons_succ]
                    rfl
                  refine take_ (i := 7) (N := some 60) (v := ?_) (a' := ?_) #[true, true, true, true, true, true, true, true, false, false, false, false, false, false, false, false, false, false, false, false, false] rfl rfl (by kernel_rfl) (fun _ _ _ h => h) (Or.inl ⟨by rfl, ?_⟩) hHeld ?_ ?_
                  rotate_left
                  · intro w' hS_
                    obtain ⟨e0_, e1_, e2_, e3_, e4_⟩ := hS_
                    go_simp
                    try with_reducible rfl
                  rotate_left
                  · simp only [Act.put, List.setIfInBounds_toArray, List.set_cons_zero, List.set_cons_succ]
                    rfl
                  refine pure_ (i := 8) (N := some 61) (v := ?_) (a' := ?_) #[true, true, true, true, true, true, true, true, true, false, false, false, false, false, false, false, false, false, false, false, false] rfl rfl (by kernel_rfl) (fun _ _ _ h => h) (Or.inl ⟨by rfl, ?_⟩) ?_ ?_
                  rotate_left
                  · intro w'
                    go_simp
                    try with_reducible rfl
                  rotate_left
                  · simp only [Act.put, List.setIfInBounds_toArray, List.set_cons_zero, List.set_cons_succ]
                    rfl
                  refine take_ (i := 9) (N := some 62) (v := ?_) (a' := ?_) #[true, true, true, true, true, true, true, true, true, true, false, false, false, false, false, false, false, false, false, false, false] rfl rfl (by kernel_rfl) (fun _ _ _ h => h) (Or.inl ⟨by rfl, ?_⟩) hHeld ?_ ?_
                  rotate_left
                  · intro w' hS_
                    obtain ⟨e0_, e1_, e2_, e3_, e4_⟩ := hS_
                    go_simp
                    try with_reducible rfl
                  rotate_left
                  · simp only [Act.put, List.setIfInBounds_toArray, List.set_cons_zero, List.set_cons_succ]
                    rfl
                  refine pure_ (i := 10) (N := some 63) (v := ?_) (a' := ?_) #[true, true, true, true, true, true, true, true, true, true, true, false, false, false, false, false, false, false, false, false, false] rfl rfl (by kernel_rfl) (fun _ _ _ h => h) (Or.inl ⟨by rfl, ?_⟩) ?_ ?_
                  rotate_left
                  · intro w'
                    go_simp
                    try with_reducible rfl
                  rotate_left
                  · simp only [Act.put, List.setIfInBounds_toArray, List.set_cons_zero, List.set_cons_succ]
                    rfl
                  refine take_ (i := 11) (N := some 64) (v := ?_) (a' := ?_) #[true, true, true, true, true, true, true, true, true, true, true, true, false, false, false, false, false, false, false, false, false] rfl rfl (by kernel_rfl) (fun _ _ _ h => h) (Or.inl ⟨by rfl, ?_⟩) hHeld ?_ ?_
                  rotate_left
                  · intro w' hS_
                    obtain ⟨e0_, e1_, e2_, e3_, e4_⟩ := hS_
                    go_simp
                    try with_reducible rfl
                  rotate_left
                  · simp only [Act.put, List.setIfInBounds_toArray, List.set_cons_zero, List.set_cons_succ]
                    rfl
                  refine pure_ (i := 12) (N := some 65) (v := ?_) (a' := ?_) #[true, true, true, true, true, true, true, true, true, true, true, true, true, false, false, false, false, false, false, false, false] rfl rfl (by kernel_rfl) (fun _ _ _ h => h) (Or.inl ⟨by rfl, ?_⟩) ?_ ?_
                  rotate_left
                  · intro w'
                    go_simp
                    try with_reducible rfl
                  rotate_left
                  · simp only [Act.put, List.setIfInBounds_toArray, List.set_cons_zero, List.set_cons_succ]
                    rfl
                  refine pure_ (i := 13) (N := some 66) (v := ?_) (a' := ?_) #[true, true, true, true, true, true, true, true, true, true, true, true, true, true, false, false, false, false, false, false, false] rfl rfl (by kernel_rfl) (fun _ _ _ h => h) (Or.inl ⟨by rfl, ?_⟩) ?_ ?_
                  rotate_left
                  · intro w'
                    go_simp
                    try with_reducible rfl
                  rotate_left
                  · simp only [Act.put, List.setIfInBounds_toArray, List.set_cons_zero, List.set_cons_succ]
                    rfl
                  refine one_ (i := 14) (N := some 67) #[true, true, true, true, true, true, true, true, true, true, true, true, true, true, true, false, false, false, false, false, false] rfl rfl (by kernel_rfl) (by decide) (fun K hK => ?_)
                  go_simp
                  refine hK.out _ _ ?hS (fun hHeld => ?_)
                  case hS => exact ⟨pw_cell_below (below_alloc (Below.refl _ _) _) hHeld.1, pw_cell_below (below_alloc (Below.refl _ _) _) hHeld.2.1, pw_cell_below (below_alloc (Below.refl _ _) _) hHeld.2.2.1, pw_cell_below (below_alloc (Below.refl _ _) _) hHeld.2.2.2.1, pw_cell_below (below_alloc (Below.refl _ _) _) hHeld.2.2.2.2⟩
                  clear hK K
                  refine last_ (i := 15) (N := some 68) #[true, true, true, true, true, true, true, true, true, true, true, true, true, true, true, true, false, false, false, false, false] rfl rfl (by kernel_rfl) (by decide) (fun K hK => ?_)
                  refine Kd.R_append_step k39 (w0 := W1) W1.heap.size (by rfl) (.tmp 56) (.tmp 67) 37 39 (.agg #[(.int .i64 0), (.string ⟨#[]⟩), (.int .i64 0), (.int .i64 0), (.slice none 0 0)]) 64 rfl Tryd.underlying37 info39 rfl (by decide) (by decide) _ (topN st).f4 zN [.int .i64 0, .string ⟨#[]⟩, .int .i64 0, .int .i64 0, .slice none 0 0] okw (fun _ => False) rfl rfl (zN_M _ _ _) (fun _ hk => hk.elim) HNEW.out HR4.out HBW.out HSZ.out HLEN.out ?_
                  intro v1 w1 hR1 hB1 hg1 hat
                  obtain ⟨h1, c1, he, hb1, hl1, _⟩ := Kd.R_form hR1 (by simp)
                  simp only [List.length_append, List.length_cons, List.length_nil, Nat.zero_add] at he
                  subst he
                  have hH1 := Kd.H_grown HHO.out hg1 (fun k hk => HR4.out.1 k hk)
                  obtain ⟨⟨curg, hcg, hfg⟩, hng⟩ := hole_row hH1
                  obtain ⟨curh, hch, hfh⟩ := row_at hR1
                  have hne : h1 ≠ g := fun he => hng (he ▸ hR1.1 h1 (by simp [Value.ownBlock]))
                  have HR1 := Aside0.mk hR1
                  have HH1 := Aside0.mk hH1
                  have HB1 := Aside0.mk hB1
                  have HG := Aside0.mk (And.intro hcg hfg)
                  have HC := Aside0.mk (And.intro hch hfh)
                  have HNEG := Aside0.mk hne
                  clear hR1 hH1 hB1 hg1 hat hcg hfg hch hfh hne hng
                  refine hK.out _ _ ?_
                  clear hK K
                  refine norm_ (a' := ?_) ?_ ?_
                  rotate_left
                  · show Act.put _ (some 68) _ = _
                    simp only [Act.put, List.setIfInBounds_toArray, List.set_cons_zero, List.set_cons_succ]
                    rfl
                  have hlt1 : ((topN st).f4.length : Int) < ((topN st).f4.length : Int) + 1 := Int.lt_succ _
                  refine pure_ (i := 16) (N := some 69) (v := ?_) (a' := ?_) #[true, true, true, true, true, true, true, true, true, true, true, true, true, true, true, true, true, false, false, false, false] rfl rfl (by kernel_rfl) (fun _ _ _ h => h) (Or.inl ⟨by rfl, ?_⟩) ?_ ?_
                  rotate_left
                  · intro w'
                    go_simp
                    try with_reducible rfl
                  rotate_left
                  · simp only [Act.put, List.setIfInBounds_toArray, List.set_cons_zero, List.set_cons_succ]
                    rfl
                  refine pure_ (i := 18) (N := some 70) (v := ?_) (a' := ?_) #[true, true, true, true, true, true, true, true, true, true, true, true, true, true, true, true, true, false, true, false, false] rfl rfl (by kernel_rfl) (fun _ _ _ h => h) (Or.inl ⟨by rfl, ?_⟩) ?_ ?_
                  rotate_left
                  · intro w'
                    go_simp
                    try with_reducible rfl
                  rotate_left
                  · simp only [Act.put, List.setIfInBounds_toArray, List.set_cons_zero, List.set_cons_succ]
                    rfl
                  refine pure_ (i := 19) (N := some 71) (v := ?_) (a' := ?_) #[true, true, true, true, true, true, true, true, true, true, true, true, true, true, true, true, true, false, true, true, false] rfl rfl (by kernel_rfl) (fun _ _ _ h => h) (Or.inl ⟨by rfl, ?_⟩) ?_ ?_
                  rotate_left
                  · intro w'
                    go_simp
                    try with_reducible rfl
                  rotate_left
                  · simp only [Act.put, List.setIfInBounds_toArray, List.set_cons_zero, List.set_cons_succ]
                    rfl
                  have HFIN : ∀ V, V = ((w1.setCells h1 ((topN st).f4.length * 5) [.int .i64 t.f0, .string t.f1, .int .i64 t.f2, .int .i64 t.f3, .slice none 0 0]).setCells g (4) [.slice (some ⟨h1, 0, none⟩) ((topN st).f4.length + 1) c1]) → Aside0 (StS V W1.heap.size g cap (addTop st ⟨t.f0, t.f1, t.f2, t.f3, []⟩)) ∧ Aside0 (Below W1.heap.size W1 V) := by
                    rintro V rfl
                    have hS := top_put (m := 0) HH1.out HR1.out (k39_mkM w1 W1.heap.size (fun _ => False) ⟨t.f0, t.f1, t.f2, t.f3, []⟩ (Kd.R_nil _ _ _ _ _)) rfl (fun _ hk => hk.elim) HM.out rfl
                    refine ⟨⟨?_⟩, ⟨cells_below (Kd.S_base HS.out g (by simp [Value.ownBlock])) _ _ (cells_below hb1 _ _ HB1.out)⟩⟩
                    show Kd.S k39 39 _ _ _ (.slice (some ⟨g, 0, none⟩) (addTop st ⟨t.f0, t.f1, t.f2, t.f3, []⟩).length cap) _
                    rw [addTop_len, HM.out]
                    exact hS
                  refine wpAnyLast_ready (rs := [17, 20]) (by kernel_rfl) (by decide) (AllReadyL.cons_last (i := 17) rfl (by decide) (fun K hK => ?_) (AllReadyL.cons_last (i := 20) rfl (by decide) (fun K hK => ?_) AllReadyL.nil))
                  · refine store_row (by rfl) rfl 39 (.tmp 69) (.tmp 65) rfl (g := h1) (seg := [.int .i64 t.f0, .string t.f1, .int .i64 t.f2, .int .i64 t.f3, .slice none 0 0]) rfl rfl rfl (by kernel_rfl) HC.out.1 (by have := HC.out.2; have h5 : ((topN st).f4.length + 1) * 5 ≤ curh.size := this; show (topN st).f4.length * 5 + 5 ≤ curh.size; omega) (by simp [Value.oneCell']) ?_
                    refine hK.out _ _ ?_
                    clear hK K
                    refine last_ (i := 20) (N := none) #[true, true, true, true, true, true, true, true, true, true, true, true, true, true, true, true, true, true, true, true, true] rfl rfl (by kernel_rfl) (by decide) (fun K hK => ?_)
                    refine store_row (by rfl) rfl 37 (.tmp 71) (.tmp 68) rfl (g := g) (seg := [.slice (some ⟨h1, 0, none⟩) ((topN st).f4.length + 1) c1]) rfl rfl rfl (by kernel_rfl) ((setCells_far _ _ g (Ne.symm HNEG.out)).trans HG.out.1) (by have := HG.out.2; have h5 : (0 + 1) * 5 ≤ curg.size := this; show 4 + 1 ≤ curg.size; omega) (by simp [Value.oneCell']) ?_
                    refine hK.out _ _ ?_
                    clear hK K
                    refine done_ (by kernel_rfl) ?_
                    obtain ⟨hS9, hB9⟩ := HFIN _ (rfl)
                    clear HFIN
                    go_wp2
                    go_roundg (l.length - (i + 1))
                    case measure => have := HN.out; omega
                    case rel => exact ⟨i + 1, _, g, cap, by go_num, by rw [addTop_len, HM.out], HP2, hS9, hB9, ⟨by omega⟩, HO2⟩
                  · refine store_row (by rfl) rfl 37 (.tmp 71) (.tmp 68) rfl (g := g) (seg := [.slice (some ⟨h1, 0, none⟩) ((topN st).f4.length + 1) c1]) rfl rfl rfl (by kernel_rfl) HG.out.1 (by have := HG.out.2; have h5 : (0 + 1) * 5 ≤ curg.size := this; show 4 + 1 ≤ curg.size; omega) (by simp [Value.oneCell']) ?_
                    refine hK.out _ _ ?_
                    clear hK K
                    refine last_ (i := 17) (N := none) #[true, true, true, true, true, true, true, true, true, true, true, true, true, true, true, true, true, true, true, true, true] rfl rfl (by kernel_rfl) (by decide) (fun K hK => ?_)
                    refine store_row (by rfl) rfl 39 (.tmp 69) (.tmp 65) rfl (g := h1) (seg := [.int .i64 t.f0, .string t.f1, .int .i64 t.f2, .int .i64 t.f3, .slice none 0 0]) rfl rfl rfl (by kernel_rfl) ((setCells_far _ _ h1 HNEG.out).trans HC.out.1) (by have := HC.out.2; have h5 : ((topN st).f4.length + 1) * 5 ≤ curh.size := this; show (topN st).f4.length * 5 + 5 ≤ curh.size; omega) (by simp [Value.oneCell']) ?_
                    refine hK.out _ _ ?_
                    clear hK K
                    refine done_ (by kernel_rfl) ?_
                    obtain ⟨hS9, hB9⟩ := HFIN _ ((setCells_setCell (p := ⟨g, 4, none⟩) HNEG.out _ _ _ _).symm)
                    clear HFIN
                    go_wp2
                    go_roundg (l.length - (i + 1))
                    case measure => have := HN.out; omega
                    case rel => exact ⟨i + 1, _, g, cap, by go_num, by rw [addTop_len, HM.out], HP2, hS9, hB9, ⟨by omega⟩, HO2⟩
                · have b1 : (((m : Int) + 1) == 1) = false := beq_eq_false_iff_ne.2 (by omega)
                  clear hfull hd3 hd2 hd1 hd0 hz
                  clear q0 q1 q2 q3 q4 f0 f1 f2 f3 f4
                  go_wp2_with (go_at_call 45; refine (HD.out _).mono ?_; rintro e2 W2 ⟨rfl, hB2⟩; have KB2 := Aside0.mk (below_step (below_alloc (Below.refl wr.heap.size wr) _) hB2); have htop2 := pw_cell_below KB2.out htop; have tb := blk_below (blk_new wr (.cells #[.int .i64 t.f0, .string t.f1, .int .i64 t.f2, .int .i64 t.f3] 29)) hB2; have TB := Aside0.mk tb; have tb0 := (blk_cell tb 0).trans rfl; have tb1 := (blk_cell tb 1).trans rfl; have tb2 := (blk_cell tb 2).trans rfl; have tb3 : W2.cell? ⟨wr.heap.size, 3, none⟩ = some (.int .i64 t.f3) := (blk_cell tb 3).trans rfl; have bx2 := blk_below HBX.out KB2.out; have BX2 := Aside0.mk bx2; have r0 := (blk_cell bx2 0).trans rfl; have r1 := (blk_cell bx2 1).trans rfl; have r2 := (blk_cell bx2 2).trans rfl; have r3 := (blk_cell bx2 3).trans rfl; have r4 := (blk_cell bx2 4).trans rfl; have s0 := blk_frozen bx2 0; have s1 := blk_frozen bx2 1; have s2 := blk_frozen bx2 2; have s3 := blk_frozen bx2 3; have s4 := blk_frozen bx2 4; have hSd := Kd.S_below HS.out (below_drew1 KB2.out); rw [HM.out] at hSd; obtain ⟨okw, A5, c5, hnew, hR4, hcell, hH⟩ := top_open (m := m) hSd HM.out rfl; have HNEW := Aside0.mk hnew; have HR4 := Aside0.mk hR4; have HCELL : W2.drew.cell? ⟨g, m * 5 + 4, none⟩ = some (.slice A5 (topN st).f4.length c5) := hcell; have HHO := Aside0.mk hH; have HBW := Aside0.mk (below_drew1 (below_step HBl.out KB2.out)); have HSZ := Aside0.mk (below_size HBW.out); have HHCELL := Aside0.mk HCELL; clear hB2 tb bx2 htop r0 r1 r2 r3 r4 s0 s1 s2 s3 s4 hSd hnew hR4 hH hcell)
                  refine start_ (n := 21) (S := fun V => V.cell? ⟨wr.heap.size, 0, none⟩ = some (.int .i64 t.f0) ∧ V.cell? ⟨wr.heap.size, 1, none⟩ = some (.string t.f1) ∧ V.cell? ⟨wr.heap.size, 2, none⟩ = some (.int .i64 t.f2) ∧ V.cell? ⟨wr.heap.size, 3, none⟩ = some (.int .i64 t.f3) ∧ V.cell? ⟨g, m * 5 + 4, none⟩ = some (.slice A5 (topN st).f4.length c5)) (ds := [15, 17, 20]) #[false, false, false, false, false, false, false, false, false, false, false, false, false, false, false, false, false, false, false, false, false] (by kernel_rfl) rfl rfl ⟨tb0, tb1, tb2, tb3, HHCELL.out⟩ (fun hHeld => ?_)
                  refine pure_ (i := 0) (N := some 53) (v := ?_) (a' := ?_) #[true, false, false, false, false, false, false, false, false, false, false, false, false, false, false, false, false, false, false, false, false] rfl rfl (by kernel_rfl) (fun _ _ _ h => h) (Or.inl ⟨by rfl, ?_⟩) ?_ ?_
                  rotate_left
                  · intro w'
                    go_simp
                    try with_reducible rfl
                  rotate_left
                  · simp only [Act.put, List.setIfInBounds_toArray, List.set_cons_zero, List.set_cons_succ]
                    rfl
                  refine pure_ (i := 1) (N := some 54) (v := ?_) (a' := ?_) #[true, true, false, false, false, false, false, false, false, false, false, false, false, false, false, false, false, false, false, false, false] rfl rfl (by kernel_rfl) (fun _ _ _ h => h) (Or.inl ⟨by rfl, ?_⟩) ?_ ?_
                  rotate_left
                  · intro w'
                    go_simp
                    try with_reducible rfl
                  rotate_left
                  · simp only [Act.put, List.setIfInBounds_toArray, List.set_cons_zero, List.set_cons_succ]
                    rfl
                  refine pure_ (i := 2) (N := some 55) (v := ?_) (a' := ?_) #[true, true, true, false, false, false, false, false, false, false, false, false, false, false, false, false, false, false, false, false, false] rfl rfl (by kernel_rfl) (fun _ _ _ h => h) (Or.inl ⟨by rfl, ?_⟩) ?_ ?_
                  rotate_left
                  · intro w'
                    go_simp
                    try with_reducible rfl
                  rotate_left
                  · simp only [Act.put, List.setIfInBounds_toArray, List.set_cons_zero, List.set_cons_succ]
                    rfl
                  refine take_ (i := 3) (N := some 56) (v := ?_) (a' := ?_) #[true, true, true, true, false, false, false, false, false, false, false, false, false, false, false, false, false, false, false, false, false] rfl rfl (by kernel_rfl) (fun _ _ _ h => h) (Or.inl ⟨by rfl, ?_⟩) hHeld ?_ ?_
                  rotate_left
                  · intro w' hS_
                    obtain ⟨e0_, e1_, e2_, e3_, e4_⟩ := hS_
                    go_simp
                    try with_reducible rfl
                  rotate_left
                  · simp only [Act.put, List.setIfInBounds_toArray, List.set_cons_zero, List.set_cons_succ]
                    rfl
                  refine pure_ (i := 4) (N := some 57) (v := ?_) (a' := ?_) #[true, true, true, true, true, false, false, false, false, false, false, false, false, false, false, false, false, false, false, false, false] rfl rfl (by kernel_rfl) (fun _ _ _ h => h) (Or.inl ⟨by rfl, ?_⟩) ?_ ?_
                  rotate_left
                  · intro w'
                    go_simp
                    try with_reducible rfl
                  rotate_left
                  · simp only [Act.put, List.setIfInBounds_toArray, List.set_cons_zero, List.set_cons_succ]
                    rfl
                  refine take_ (i := 5) (N := some 58) (v := ?_) (a' := ?_) #[true, true, true, true, true, true, false, false, false, false, false, false, false, false, false, false, false, false, false, false, false] rfl rfl (by kernel_rfl) (fun _ _ _ h => h) (Or.inl ⟨by rfl, ?_⟩) hHeld ?_ ?_
                  rotate_left
                  · intro w' hS_
                    obtain ⟨e0_, e1_, e2_, e3_, e4_⟩ := hS_
                    go_simp
                    try with_reducible rfl
                  rotate_left
                  · simp only [Act.put, List.setIfInBounds_toArray, List.set_cons_zero, List.set_cons_succ]
                    rfl
                  refine pure_ (i := 6) (N := some 59) (v := ?_) (a' := ?_) #[true, true, true, true, true, true, true, false, false, false, false, false, false, false, false, false, false, false, false, false, false] rfl rfl (by kernel_rfl) (fun _ _ _ h => h) (Or.inl ⟨by rfl, ?_⟩) ?_ ?_
                  rotate_left
                  · intro w'
                    go_simp
                    try with_reducible rfl
                  rotate_left
                  · simp only [Act.put, List.setIfInBounds_toArray, List.set_cons_zero, List.set_cons_succ]
                    rfl
                  refine take_ (i := 7) (N := some 60) (v := ?_) (a' := ?_) #[true, true, true, true, true, true, true, true, false, false, false, false, false, false, false, false, false, false, false, false, false] rfl rfl (by kernel_rfl) (fun _ _ _ h => h) (Or.inl ⟨by rfl, ?_⟩) hHeld ?_ ?_
                  rotate_left
                  · intro w' hS_
                    obtain ⟨e0_, e1_, e2_, e3_, e4_⟩ := hS_
                    go_simp
                    try with_reducible rfl
                  rotate_left
                  · simp only [Act.put, List.setIfInBounds_toArray, List.set_cons_zero, List.set_cons_succ]
                    rfl
                  refine pure_ (i := 8) (N := some 61) (v := ?_) (a' := ?_) #[true, true, true, true, true, true, true, true, true, false, false, false, false, false, false, false, false, false, false, false, false] rfl rfl (by kernel_rfl) (fun _ _ _ h => h) (Or.inl ⟨by rfl, ?_⟩) ?_ ?_
                  rotate_left
                  · intro w'
                    go_simp
                    try with_reducible rfl
                  rotate_left
                  · simp only [Act.put, List.setIfInBounds_toArray, List.set_cons_zero, List.set_cons_succ]
                    rfl
                  refine take_ (i := 9) (N := some 62) (v := ?_) (a' := ?_) #[true, true, true, true, true, true, true, true, true, true, false, false, false, false, false, false, false, false, false, false, false] rfl rfl (by kernel_rfl) (fun _ _ _ h => h) (Or.inl ⟨by rfl, ?_⟩) hHeld ?_ ?_
                  rotate_left
                  · intro w' hS_
                    obtain ⟨e0_, e1_, e2_, e3_, e4_⟩ := hS_
                    go_simp
                    try with_reducible rfl
                  rotate_left
                  · simp only [Act.put, List.setIfInBounds_toArray, List.set_cons_zero, List.set_cons_succ]
                    rfl
                  refine pure_ (i := 10) (N := some 63) (v := ?_) (a' := ?_) #[true, true, true, true, true, true, true, true, true, true, true, false, false, false, false, false, false, false, false, false, false] rfl rfl (by kernel_rfl) (fun _ _ _ h => h) (Or.inl ⟨by rfl, ?_⟩) ?_ ?_
                  rotate_left
                  · intro w'
                    go_simp
                    try with_reducible rfl
                  rotate_left
                  · simp only [Act.put, List.setIfInBounds_toArray, List.set_cons_zero, List.set_cons_succ]
                    rfl
                  refine take_ (i := 11) (N := some 64) (v := ?_) (a' := ?_) #[true, true, true, true, true, true, true, true, true, true, true, true, false, false, false, false, false, false, false, false, false] rfl rfl (by kernel_rfl) (fun _ _ _ h => h) (Or.inl ⟨by rfl, ?_⟩) hHeld ?_ ?_
                  rotate_left
                  · intro w' hS_
                    obtain ⟨e0_, e1_, e2_, e3_, e4_⟩ := hS_
                    go_simp
                    try with_reducible rfl
                  rotate_left
                  · simp only [Act.put, List.setIfInBounds_toArray, List.set_cons_zero, List.set_cons_succ]
                    rfl
                  refine pure_ (i := 12) (N := some 65) (v := ?_) (a' := ?_) #[true, true, true, true, true, true, true, true, true, true, true, true, true, false, false, false, false, false, false, false, false] rfl rfl (by kernel_rfl) (fun _ _ _ h => h) (Or.inl ⟨by rfl, ?_⟩) ?_ ?_
                  rotate_left
                  · intro w'
                    go_simp
                    try with_reducible rfl
                  rotate_left
                  · simp only [Act.put, List.setIfInBounds_toArray, List.set_cons_zero, List.set_cons_succ]
                    rfl
                  refine pure_ (i := 13) (N := some 66) (v := ?_) (a' := ?_) #[true, true, true, true, true, true, true, true, true, true, true, true, true, true, false, false, false, false, false, false, false] rfl rfl (by kernel_rfl) (fun _ _ _ h => h) (Or.inl ⟨by rfl, ?_⟩) ?_ ?_
                  rotate_left
                  · intro w'
                    go_simp
                    try with_reducible rfl
                  rotate_left
                  · simp only [Act.put, List.setIfInBounds_toArray, List.set_cons_zero, List.set_cons_succ]
                    rfl
                  refine one_ (i := 14) (N := some 67) #[true, true, true, true, true, true, true, true, true, true, true, true, true, true, true, false, false, false, false, false, false] rfl rfl (by kernel_rfl) (by decide) (fun K hK => ?_)
                  go_simp
                  refine hK.out _ _ ?hS (fun hHeld => ?_)
                  case hS => exact ⟨pw_cell_below (below_alloc (Below.refl _ _) _) hHeld.1, pw_cell_below (below_alloc (Below.refl _ _) _) hHeld.2.1, pw_cell_below (below_alloc (Below.refl _ _) _) hHeld.2.2.1, pw_cell_below (below_alloc (Below.refl _ _) _) hHeld.2.2.2.1, pw_cell_below (below_alloc (Below.refl _ _) _) hHeld.2.2.2.2⟩
                  clear hK K
                  refine last_ (i := 15) (N := some 68) #[true, true, true, true, true, true, true, true, true, true, true, true, true, true, true, true, false, false, false, false, false] rfl rfl (by kernel_rfl) (by decide) (fun K hK => ?_)
                  refine Kd.R_append_step k39 (w0 := W1) W1.heap.size (by rfl) (.tmp 56) (.tmp 67) 37 39 (.agg #[(.int .i64 0), (.string ⟨#[]⟩), (.int .i64 0), (.int .i64 0), (.slice none 0 0)]) 64 rfl Tryd.underlying37 info39 rfl (by decide) (by decide) _ (topN st).f4 zN [.int .i64 0, .string ⟨#[]⟩, .int .i64 0, .int .i64 0, .slice none 0 0] okw (fun _ => False) rfl rfl (zN_M _ _ _) (fun _ hk => hk.elim) HNEW.out HR4.out HBW.out HSZ.out HLEN.out ?_
                  intro v1 w1 hR1 hB1 hg1 hat
                  obtain ⟨h1, c1, he, hb1, hl1, _⟩ := Kd.R_form hR1 (by simp)
                  simp only [List.length_append, List.length_cons, List.length_nil, Nat.zero_add] at he
                  subst he
                  have hH1 := Kd.H_grown HHO.out hg1 (fun k hk => HR4.out.1 k hk)
                  obtain ⟨⟨curg, hcg, hfg⟩, hng⟩ := hole_row hH1
                  obtain ⟨curh, hch, hfh⟩ := row_at hR1
                  have hne : h1 ≠ g := fun he => hng (he ▸ hR1.1 h1 (by simp [Value.ownBlock]))
                  have HR1 := Aside0.mk hR1
                  have HH1 := Aside0.mk hH1
                  have HB1 := Aside0.mk hB1
                  have HG := Aside0.mk (And.intro hcg hfg)
                  have HC := Aside0.mk (And.intro hch hfh)
                  have HNEG := Aside0.mk hne
                  clear hR1 hH1 hB1 hg1 hat hcg hfg hch hfh hne hng
                  refine hK.out _ _ ?_
                  clear hK K
                  refine norm_ (a' := ?_) ?_ ?_
                  rotate_left
                  · show Act.put _ (some 68) _ = _
                    simp only [Act.put, List.setIfInBounds_toArray, List.set_cons_zero, List.set_cons_succ]
                    rfl
                  have hlt1 : ((topN st).f4.length : Int) < ((topN st).f4.length : Int) + 1 := Int.lt_succ _
                  refine pure_ (i := 16) (N := some 69) (v := ?_) (a' := ?_) #[true, true, true, true, true, true, true, true, true, true, true, true, true, true, true, true, true, false, false, false, false] rfl rfl (by kernel_rfl) (fun _ _ _ h => h) (Or.inl ⟨by rfl, ?_⟩) ?_ ?_
                  rotate_left
                  · intro w'
                    go_simp
                    try with_reducible rfl
                  rotate_left
                  · simp only [Act.put, List.setIfInBounds_toArray, List.set_cons_zero, List.set_cons_succ]
                    rfl
                  refine pure_ (i := 18) (N := some 70) (v := ?_) (a' := ?_) #[true, true, true, true, true, true, true, true, true, true, true, true, true, true, true, true, true, false, true, false, false] rfl rfl (by kernel_rfl) (fun _ _ _ h => h) (Or.inl ⟨by rfl, ?_⟩) ?_ ?_
                  rotate_left
                  · intro w'
                    go_simp
                    try with_reducible rfl
                  rotate_left
                  · simp only [Act.put, List.setIfInBounds_toArray, List.set_cons_zero, List.set_cons_succ]
                    rfl
                  refine pure_ (i := 19) (N := some 71) (v := ?_) (a' := ?_) #[true, true, true, true, true, true, true, true, true, true, true, true, true, true, true, true, true, false, true, true, false] rfl rfl (by kernel_rfl) (fun _ _ _ h => h) (Or.inl ⟨by rfl, ?_⟩) ?_ ?_
                  rotate_left
                  · intro w'
                    go_simp
                    try with_reducible rfl
                  rotate_left
                  · simp only [Act.put, List.setIfInBounds_toArray, List.set_cons_zero, List.set_cons_succ]
                    rfl
                  have HFIN : ∀ V, V = ((w1.setCells h1 ((topN st).f4.length * 5) [.int .i64 t.f0, .string t.f1, .int .i64 t.f2, .int .i64 t.f3, .slice none 0 0]).setCells g (m * 5 + 4) [.slice (some ⟨h1, 0, none⟩) ((topN st).f4.length + 1) c1]) → Aside0 (StS V W1.heap.size g cap (addTop st ⟨t.f0, t.f1, t.f2, t.f3, []⟩)) ∧ Aside0 (Below W1.heap.size W1 V) := by
                    rintro V rfl
                    have hS := top_put (m := m) HH1.out HR1.out (k39_mkM w1 W1.heap.size (fun _ => False) ⟨t.f0, t.f1, t.f2, t.f3, []⟩ (Kd.R_nil _ _ _ _ _)) rfl (fun _ hk => hk.elim) HM.out rfl
                    refine ⟨⟨?_⟩, ⟨cells_below (Kd.S_base HS.out g (by simp [Value.ownBlock])) _ _ (cells_below hb1 _ _ HB1.out)⟩⟩
                    show Kd.S k39 39 _ _ _ (.slice (some ⟨g, 0, none⟩) (addTop st ⟨t.f0, t.f1, t.f2, t.f3, []⟩).length cap) _
                    rw [addTop_len, HM.out]
                    exact hS
                  refine wpAnyLast_ready (rs := [17, 20]) (by kernel_rfl) (by decide) (AllReadyL.cons_last (i := 17) rfl (by decide) (fun K hK => ?_) (AllReadyL.cons_last (i := 20) rfl (by decide) (fun K hK => ?_) AllReadyL.nil))
                  · refine store_row (by rfl) rfl 39 (.tmp 69) (.tmp 65) rfl (g := h1) (seg := [.int .i64 t.f0, .string t.f1, .int .i64 t.f2, .int .i64 t.f3, .slice none 0 0]) rfl rfl rfl (by kernel_rfl) HC.out.1 (by have := HC.out.2; have h5 : ((topN st).f4.length + 1) * 5 ≤ curh.size := this; show (topN st).f4.length * 5 + 5 ≤ curh.size; omega) (by simp [Value.oneCell']) ?_
                    refine hK.out _ _ ?_
                    clear hK K
                    refine last_ (i := 20) (N := none) #[true, true, true, true, true, true, true, true, true, true, true, true, true, true, true, true, true, true, true, true, true] rfl rfl (by kernel_rfl) (by decide) (fun K hK => ?_)
                    refine store_row (by rfl) rfl 37 (.tmp 71) (.tmp 68) rfl (g := g) (seg := [.slice (some ⟨h1, 0, none⟩) ((topN st).f4.length + 1) c1]) rfl rfl rfl (by kernel_rfl) ((setCells_far _ _ g (Ne.symm HNEG.out)).trans HG.out.1) (by have := HG.out.2; have h5 : (m + 1) * 5 ≤ curg.size := this; show m * 5 + 4 + 1 ≤ curg.size; omega) (by simp [Value.oneCell']) ?_
                    refine hK.out _ _ ?_
                    clear hK K
                    refine done_ (by kernel_rfl) ?_
                    obtain ⟨hS9, hB9⟩ := HFIN _ (rfl)
                    clear HFIN
                    go_wp2
                    go_roundg (l.length - (i + 1))
                    case measure => have := HN.out; omega
                    case rel => exact ⟨i + 1, _, g, cap, by go_num, by rw [addTop_len, HM.out], HP2, hS9, hB9, ⟨by omega⟩, HO2⟩
                  · refine store_row (by rfl) rfl 37 (.tmp 71) (.tmp 68) rfl (g := g) (seg := [.slice (some ⟨h1, 0, none⟩) ((topN st).f4.length + 1) c1]) rfl rfl rfl (by kernel_rfl) HG.out.1 (by have := HG.out.2; have h5 : (m + 1) * 5 ≤ curg.size := this; show m * 5 + 4 + 1 ≤ curg.size; omega) (by simp [Value.oneCell']) ?_
                    refine hK.out _ _ ?_
                    clear hK K
                    refine last_ (i := 17) (N := none) #[true, true, true, true, true, true, true, true, true, true, true, true, true, true, true, true, true, true, true, true, true] rfl rfl (by kernel_rfl) (by decide) (fun K hK => ?_)
                    refine store_row (by rfl) rfl 39 (.tmp 69) (.tmp 65) rfl (g := h1) (seg := [.int .i64 t.f0, .string t.f1, .int .i64 t.f2, .int .i64 t.f3, .slice none 0 0]) rfl rfl rfl (by kernel_rfl) ((setCells_far _ _ h1 HNEG.out).trans HC.out.1) (by have := HC.out.2; have h5 : ((topN st).f4.length + 1) * 5 ≤ curh.size := this; show (topN st).f4.length * 5 + 5 ≤ curh.size; omega) (by simp [Value.oneCell']) ?_
                    refine hK.out _ _ ?_
                    clear hK K
                    refine done_ (by kernel_rfl) ?_
                    obtain ⟨hS9, hB9⟩ := HFIN _ ((setCells_setCell (p := ⟨g, m * 5 + 4, none⟩) HNEG.out _ _ _ _).symm)
                    clear HFIN
                    go_wp2
                    go_roundg (l.length - (i + 1))
                    case measure => have := HN.out; omega
                    case rel => exact ⟨i + 1, _, g, cap, by go_num, by rw [addTop_len, HM.out], HP2, hS9, hB9, ⟨by omega⟩, HO2⟩
    · have hR : Aside0 (R = .inl st) := ⟨by rw [← HP.out, List.drop_of_length_le (by omega)]; rfl⟩
      obtain ⟨A4, c4, htop⟩ := st_top HS.out HO.out.1
      clear HP
      by_cases h1 : 1 < st.length
      · have d1 : decide (1 < (st.length : Int)) = true := decide_eq_true (by omega)
        have d2 : decide (1 < st.length) = true := decide_eq_true h1
        have hV : Aside0 (parseEnd s.size (parseL l [zN]) = (zN, (s.size : Int), 4)) := ⟨by rw [HRE.out, hR.out, parseEnd, if_pos h1]⟩
        clear htop hR h1
        go_wp2
        rw [hV.out]
        have k1 := box_put5 HBX.out (.int .i64 0) (.string ⟨#[]⟩) (.int .i64 0) (.int .i64 0) (.slice none 0 0)
        have k2 := set5_below (g := w.heap.size) HW.out (Nat.le_refl _) (.int .i64 0) (.string ⟨#[]⟩) (.int .i64 0) (.int .i64 0) (.slice none 0 0)
        refine sexpParse_ret (r := (zN, (s.size : Int), 4)) (v4 := .slice none 0 0) ?_ ?_ ?_ k1 (Kd.R_nil _ _ _ _ _) k2
        · rfl
        · rfl
        · rfl
      · have hst : st.length = 1 := by have := HO.out.1; omega
        have d1 : decide (1 < (st.length : Int)) = false := decide_eq_false (by omega)
        have d2 : decide (1 < st.length) = false := decide_eq_false h1
        have d3 : 0 < st.length := HO.out.1
        have htN : topN st = st.getD 0 zN := by unfold topN; rw [hst]
        rw [hst] at htop
        simp only [Nat.sub_self, Nat.zero_mul, Nat.zero_add] at htop
        by_cases h2 : (topN st).f4.length = 0
        · have b1 : (((topN st).f4.length : Int) == 0) = true := beq_iff_eq.2 (by omega)
          have hV : Aside0 (parseEnd s.size (parseL l [zN]) = (zN, (s.size : Int), 4)) := ⟨by rw [HRE.out, hR.out, parseEnd, if_neg h1, if_pos (by rw [← htN]; exact h2)]⟩
          clear hR h1 h2 hst htN
          go_wp2
          rw [hV.out]
          have k1 := box_put5 HBX.out (.int .i64 0) (.string ⟨#[]⟩) (.int .i64 0) (.int .i64 0) (.slice none 0 0)
          have k2 := set5_below (g := w.heap.size) HW.out (Nat.le_refl _) (.int .i64 0) (.string ⟨#[]⟩) (.int .i64 0) (.int .i64 0) (.slice none 0 0)
          refine sexpParse_ret (r := (zN, (s.size : Int), 4)) (v4 := .slice none 0 0) ?_ ?_ ?_ k1 (Kd.R_nil _ _ _ _ _) k2
          · rfl
          · rfl
          · rfl
        · have b1 : (((topN st).f4.length : Int) == 0) = false := beq_eq_false_iff_ne.2 (by omega)
          have p2 : 0 < (topN st).f4.length := by omega
          have hV : Aside0 (parseEnd s.size (parseL l [zN]) = ((topN st).f4[0], (s.size : Int), 0)) := ⟨by rw [HRE.out, hR.out, parseEnd, if_neg h1, if_neg (by rw [← htN]; exact h2), ← htN, List.getD_eq_getElem?_getD, List.getElem?_eq_getElem p2, Option.getD_some]⟩
          obtain ⟨oki, cc, e1, e2, e3, e4, e5⟩ := Kd.S_lend HS.out zN 0 (by omega) (by omega)
          obtain ⟨v4, rfl, hR4⟩ := k39_openM e2
          have htop2 := e3 4 _ rfl
          rw [show st.getD (0 : Int).toNat zN = topN st from htN.symm] at hR4
          obtain ⟨g4, c4', rfl, _⟩ := Kd.R_form hR4 p2
          obtain ⟨dd, x1, x2, x3⟩ := Kd.R_getA hR4 zN 0 (by omega) (by omega)
          obtain ⟨v5, rfl, hR5⟩ := k39_openM x2
          obtain ⟨A5, c5, rfl⟩ := Kd.R_slice hR5
          have Y := fun j u h => (show wr.cell? ⟨g4, j, none⟩ = some u from by have := x3 j u h; rw [add_plain, Int.toNat_zero, Nat.zero_mul, Nat.zero_add] at this; exact this)
          have y0 := Y 0 _ rfl
          have y1 := Y 1 _ rfl
          have y2 := Y 2 _ rfl
          have y3 := Y 3 _ rfl
          have y4 := Y 4 _ rfl
          rw [show (0 : Int).toNat * k39.sz + 4 = 4 from rfl] at htop2
          have HR5 := Aside0.mk hR5
          clear hR h1 h2 hst htN htop e1 e2 e3 e4 e5 hR4 x1 x2 x3 hR5 Y
          have hgd : (topN st).f4.getD (0 : Int).toNat zN = (topN st).f4[0] := by rw [List.getD_eq_getElem?_getD, Int.toNat_zero, List.getElem?_eq_getElem p2, Option.getD_some]
          rw [hgd] at HR5 y0 y1 y2 y3 y4
          clear hgd
          have hWs : Aside0 (w.heap.size < W1.heap.size) := ⟨by have := HB.out.size; rw [World.size_alloc] at this; omega⟩
          go_wp2
          rw [hV.out]
          have k1 := box_put5 HBX.out (.int .i64 (topN st).f4[0].f0) (.string (topN st).f4[0].f1) (.int .i64 (topN st).f4[0].f2) (.int .i64 (topN st).f4[0].f3) (.slice A5 (topN st).f4[0].f4.length c5)
          have k2 := set5_below (g := w.heap.size) HW.out (Nat.le_refl _) (.int .i64 (topN st).f4[0].f0) (.string (topN st).f4[0].f1) (.int .i64 (topN st).f4[0].f2) (.int .i64 (topN st).f4[0].f3) (.slice A5 (topN st).f4[0].f4.length c5)
          have k3 := R_set5 HR5.out hWs.out (.int .i64 (topN st).f4[0].f0) (.string (topN st).f4[0].f1) (.int .i64 (topN st).f4[0].f2) (.int .i64 (topN st).f4[0].f3) (.slice A5 (topN st).f4[0].f4.length c5)
          refine sexpParse_ret (r := ((topN st).f4[0], (s.size : Int), 0)) (v4 := .slice A5 (topN st).f4[0].f4.length c5) ?_ ?_ ?_ k1 k3 k2
          · rfl
          · rfl
          · rfl
end Go.Proofs.YtngcojabofkbjaaDoor.P
namespace Go.Proofs.YtngcojabofkbjaaDoor.P
open Go.RowKit Go.Proofs.YtngcojabofkbjaaDoorW.PrintWords Go.Proofs.YtngcojabofkbjaaDoorW.PrintLast Go.Proofs.YtngcojabofkbjaaDoorW.PrintMore
set_option linter.unusedVariables false
set_option linter.unusedSimpArgs false
theorem allF_len (s : ByteArray) : (allF s).1.length ≤ 1000 := by
  unfold allF
  split
  · simp
  · rw [all_scan]
    cases h : scan 1000 0 (bl s) with
    | inr e => obtain ⟨p, e⟩ := e; simp [endL]
    | inl ts => have := scan_len _ _ _ _ _ (Nat.le_refl _) h; simp [endL]; omega
theorem allF_big (s : ByteArray) (h : 5000 < s.size) : (allF s).2.2 ≠ 0 := by
  unfold allF
  rw [if_pos (by omega)]
  decide
def sexp_Parse.f (a0 : ByteArray) : Option (Int × ByteArray × Int × Int × List (S39) × Int × Int) := some ((parseN a0).1.f0, (parseN a0).1.f1, (parseN a0).1.f2, (parseN a0).1.f3, (parseN a0).1.f4, (parseN a0).2.1, (parseN a0).2.2)
theorem sexp_Parse.calls (a0 : ByteArray) (r1 : Int) (r2 : ByteArray) (r3 : Int) (r4 : Int) (r5 : List (S39)) (r6 : Int) (r7 : Int) (w : World) (hG : GInv w) (h : sexp_Parse.f a0 = some (r1, r2, r3, r4, r5, r6, r7)) :
    Calls Tryd.prog 24 #[.string a0] w fun e w' => ∃ v4_ : Value, e = .returned (.tuple #[.agg #[.int .i64 r1, .string r2, .int .i64 r3, .int .i64 r4, v4_], .int .i64 r6, .int .i64 r7]) ∧ Kd.R k39 39 w' w.heap.size (fun _ => True) v4_ r5 ∧ Below w.heap.size w w' := by
  have hp : Calls Tryd.prog 24 #[.string a0] w (ParsePost w (parseN a0)) := by
    by_cases he : (allF a0).2.2 = 0
    · have hsz : a0.size ≤ 5000 := by
        by_cases hb : 5000 < a0.size
        · exact absurd he (allF_big a0 hb)
        · omega
      have e : parseN a0 = parseEnd a0.size (parseL (allF a0).1 [zN]) := by unfold parseN; rw [if_neg (by rw [he]; decide)]
      rw [e]
      refine sexpParse_ok a0 (allF a0).1 (allF a0).2.1 w hG ?_ (allF_len a0) (by omega)
      unfold token_All.f
      rw [← he]
    · have e : parseN a0 = (zN, (allF a0).2.1, (allF a0).2.2) := by unfold parseN; rw [if_pos he]
      rw [e]
      exact sexpParse_err a0 w hG he
  unfold sexp_Parse.f at h
  simp only [Option.some.injEq, Prod.mk.injEq] at h
  obtain ⟨rfl, rfl, rfl, rfl, rfl, rfl, rfl⟩ := h
  exact hp
end Go.Proofs.YtngcojabofkbjaaDoor.P
namespace Go.Proofs.YtngcojabofkbjaaDoor.P
open Go.RowKit Go.Proofs.YtngcojabofkbjaaDoorW.PrintWords Go.Proofs.YtngcojabofkbjaaDoorW.PrintLast Go.Proofs.YtngcojabofkbjaaDoorW.PrintMore
set_option linter.unusedVariables false
set_option linter.unusedSimpArgs false
def trufflelaw14_awake.f  : Option (Bool) := (sexp_Parse.f (⟨#[40, 101, 113, 32, 97, 32, 53, 41]⟩ : ByteArray)).bind fun bt324 => (if bt324.2.2.2.2.2.2 = 0 then (if bt324.2.2.2.2.2.1 = 8 then (if bt324.1 = 4 then (if (bt324.2.2.2.2.1.length : Int) = 3 then (if 2 < (bt324.2.2.2.2.1.length : Int) then (if ((rd_T39 bt324.2.2.2.2.1 2).f2) = 5 then ((sexp_May.f bt324.1 bt324.2.1 bt324.2.2.1 bt324.2.2.2.1 bt324.2.2.2.2.1).bind fun t335 => (if t335 = true then ((sexp_Print.f bt324.1 bt324.2.1 bt324.2.2.1 bt324.2.2.2.1 bt324.2.2.2.2.1).bind fun t336 => (some (t336.toList == ([40, 101, 113, 32, 97, 32, 53, 41] : List UInt8)))) else (some false))) else (some false)) else (none)) else (some false)) else (some false)) else (some false)) else (some false))
set_option maxHeartbeats 8000000 in
set_option maxRecDepth 100000 in
theorem trufflelaw14_awake.calls  (r : Bool) (w : World) (hG : GInv w) (h : trufflelaw14_awake.f  = some r) :
    Calls Tryd.prog 23 #[] w fun e w' => e = .returned (.bool r) ∧ Below w.heap.size w w' := by
  have hu39 := Tryd.underlying39
  have HB := Aside0.mk (Below.refl w.heap.size w)
  have H : ((sexp_Parse.f (⟨#[40, 101, 113, 32, 97, 32, 53, 41]⟩ : ByteArray)).bind fun bt324 => (if bt324.2.2.2.2.2.2 = 0 then (if bt324.2.2.2.2.2.1 = 8 then (if bt324.1 = 4 then (if (bt324.2.2.2.2.1.length : Int) = 3 then (if 2 < (bt324.2.2.2.2.1.length : Int) then (if ((rd_T39 bt324.2.2.2.2.1 2).f2) = 5 then ((sexp_May.f bt324.1 bt324.2.1 bt324.2.2.1 bt324.2.2.2.1 bt324.2.2.2.2.1).bind fun t335 => (if t335 = true then ((sexp_Print.f bt324.1 bt324.2.1 bt324.2.2.1 bt324.2.2.2.1 bt324.2.2.2.2.1).bind fun t336 => (some (t336.toList == ([40, 101, 113, 32, 97, 32, 53, 41] : List UInt8)))) else (some false))) else (some false)) else (none)) else (some false)) else (some false)) else (some false)) else (some false))) = some r := h
  clear h
  replace H := Option.bind_eq_some_iff.mp H
  obtain ⟨⟨t324, t325, t326, t327, t328, t331, t332⟩, A10, H⟩ := H
  replace H : (if t332 = 0 then (if t331 = 8 then (if t324 = 4 then (if (t328.length : Int) = 3 then (if 2 < (t328.length : Int) then (if ((rd_T39 t328 2).f2) = 5 then ((sexp_May.f t324 t325 t326 t327 t328).bind fun t335 => (if t335 = true then ((sexp_Print.f t324 t325 t326 t327 t328).bind fun t336 => (some (t336.toList == ([40, 101, 113, 32, 97, 32, 53, 41] : List UInt8)))) else (some false))) else (some false)) else (none)) else (some false)) else (some false)) else (some false)) else (some false)) = some r := H
  have A1 := Aside0.mk A10
  clear A10
  by_cases c2 : t332 = 0
  · rw [if_pos c2] at H
    have c2b0 : (t332 == 0) = true := beq_iff_eq.mpr c2
    have c2b1 : (t332 != 0) = false := bne_eq_false_iff_eq.mpr c2
    clear c2
    by_cases c3 : t331 = 8
    · rw [if_pos c3] at H
      have c3b0 : (t331 == 8) = true := beq_iff_eq.mpr c3
      have c3b1 : (t331 != 8) = false := bne_eq_false_iff_eq.mpr c3
      clear c3
      by_cases c4 : t324 = 4
      · rw [if_pos c4] at H
        have c4b0 : (t324 == 4) = true := beq_iff_eq.mpr c4
        have c4b1 : (t324 != 4) = false := bne_eq_false_iff_eq.mpr c4
        clear c4
        by_cases c5 : (t328.length : Int) = 3
        · rw [if_pos c5] at H
          have c5b0 : ((t328.length : Int) == 3) = true := beq_iff_eq.mpr c5
          have c5b1 : ((t328.length : Int) != 3) = false := bne_eq_false_iff_eq.mpr c5
          clear c5
          by_cases c6 : 2 < (t328.length : Int)
          · rw [if_pos c6] at H
            have c6b0 : decide (2 < (t328.length : Int)) = true := decide_eq_true c6
            have c6b1 : decide (2 < t328.length) = true := decide_eq_true (by omega)
            clear c6
            by_cases c7 : ((rd_T39 t328 2).f2) = 5
            · rw [if_pos c7] at H
              have c7b0 : (((rd_T39 t328 2).f2) == 5) = true := beq_iff_eq.mpr c7
              have c7b1 : (((rd_T39 t328 2).f2) != 5) = false := bne_eq_false_iff_eq.mpr c7
              clear c7
              replace H := Option.bind_eq_some_iff.mp H
              obtain ⟨t335, A80, H⟩ := H
              replace H : (if t335 = true then ((sexp_Print.f t324 t325 t326 t327 t328).bind fun t336 => (some (t336.toList == ([40, 101, 113, 32, 97, 32, 53, 41] : List UInt8)))) else (some false)) = some r := H
              have A8 := Aside0.mk A80
              clear A80
              by_cases c9 : t335 = true
              · subst c9
                have H1 : ((sexp_Print.f t324 t325 t326 t327 t328).bind fun t336 => (some (t336.toList == ([40, 101, 113, 32, 97, 32, 53, 41] : List UInt8)))) = some r := by first | (rw [if_pos rfl] at H; exact H) | rfl
                clear H
                have H := H1
                clear H1
                replace H := Option.bind_eq_some_iff.mp H
                obtain ⟨t336, A100, H⟩ := H
                replace H : (some (t336.toList == ([40, 101, 113, 32, 97, 32, 53, 41] : List UInt8))) = some r := H
                have A10 := Aside0.mk A100
                clear A100
                obtain rfl := Option.some.inj H
                go_enter Tryd.func23, Tryd.ntmps23
                go_wp2_with (first | ((with_reducible refine gate_callee (f := 24) rfl ?_); refine goesL_ (some 5) rfl rfl Tryd.func24 (by kernel_rfl) rfl #[.string (⟨#[40, 101, 113, 32, 97, 32, 53, 41]⟩ : ByteArray)] rfl (by (try simp only [List.map_toArray, List.map_cons, List.map_nil]); first | done | rfl | (simp only [List.length_drop, List.length_take]; rfl)) ?_; (with_reducible refine (sexp_Parse.calls (⟨#[40, 101, 113, 32, 97, 32, 53, 41]⟩ : ByteArray) t324 t325 t326 t327 t328 t331 t332 _ ?side1 A1.out).mono ?_); (case side1 => exact hG.below (by repeat (first | (with_reducible first | exact HB.out | apply below_alloc | apply pw_below_drewN | apply below_drew1) | exact HB.out))); rintro e w11 ⟨v329, rfl, ho0, hb⟩; refine ⟨_, rfl, ?_⟩; have n0_ := Aside0.mk (Kd.R_lower ho0 (below_size (by repeat (first | (with_reducible first | exact HB.out | apply below_alloc | apply pw_below_drewN | apply below_drew1) | exact HB.out)))); have n1_ := Aside0.mk (below_step (by repeat (first | (with_reducible first | exact HB.out | apply below_alloc | apply pw_below_drewN | apply below_drew1) | exact HB.out)) hb); clear HB; have HO330 := n0_; have HB := n1_; clear n0_ n1_; (try clear hb); (try clear hb2); (try clear hk); (try clear hi); (try clear ho0)) | ((with_reducible refine gate_dst (N := 1) rfl ?_); (try (refine gate_guard (by rfl) ?_; dsimp only)); refine box_event ?hg (N := 1) ?hd (cs := #[.int .i64 0, .string (⟨#[]⟩ : ByteArray), .int .i64 0, .int .i64 0, .slice none 0 0]) (t := 39) ?hr ?_; (case hd => rfl); (case hg => rfl); (case hr => first | (go_simp; done) | (go_simp; rfl)); intro gb333 hg w12 hbox hb; have n0_ := Aside0.mk (Kd.R_below (Kd.R_elderB (by (with_reducible repeat (first | apply Kd.R_alloc | apply Kd.R_drewN | apply Kd.R_drew)); exact HO330.out) gb333 (Nat.le_of_eq hg.symm)) hb); have n1_ := Aside0.mk (below_step (by repeat (first | (with_reducible first | exact HB.out | apply below_alloc | apply pw_below_drewN | apply below_drew1) | exact HB.out)) hb); have n2_ := Aside0.mk (hbox); have n3_ := Aside0.mk ((by rw [hg]; exact (below_size (by repeat (first | (with_reducible first | exact HB.out | apply below_alloc | apply pw_below_drewN | apply below_drew1) | exact HB.out))) : w.heap.size ≤ gb333)); have n4_ := Aside0.mk ((by rw [hg]; exact (below_size (by repeat (first | (with_reducible first | exact HB.out | apply below_alloc | apply pw_below_drewN | apply below_drew1) | exact HB.out))) : w.heap.size ≤ gb333)); clear HO330; clear HB; have HO330 := n0_; have HB := n1_; have BK333 := n2_; have GW333 := n3_; have GE333 := n4_; clear n0_ n1_ n2_ n3_ n4_; clear hb hbox hg; have hcz13_0 : w12.cell? ⟨gb333, 0, none⟩ = some (.int .i64 0) := (blk_cell BK333.out 0).trans rfl; have hcz13_1 : w12.cell? ⟨gb333, 1, none⟩ = some (.string (⟨#[]⟩ : ByteArray)) := (blk_cell BK333.out 1).trans rfl; have hcz13_2 : w12.cell? ⟨gb333, 2, none⟩ = some (.int .i64 0) := (blk_cell BK333.out 2).trans rfl; have hcz13_3 : w12.cell? ⟨gb333, 3, none⟩ = some (.int .i64 0) := (blk_cell BK333.out 3).trans rfl; have hcz13_4 : w12.cell? ⟨gb333, 4, none⟩ = some (.slice none 0 0) := (blk_cell BK333.out 4).trans rfl; have hfz13_0 := blk_frozen BK333.out 0; have hfz13_1 := blk_frozen BK333.out 1; have hfz13_2 := blk_frozen BK333.out 2; have hfz13_3 := blk_frozen BK333.out 3; have hfz13_4 := blk_frozen BK333.out 4; obtain ⟨Ao14, co14, eo14⟩ := Kd.R_slice HO330.out; subst eo14) | ((with_reducible refine gate_store (t := 39) (p := 1) rfl ?_); refine store_event (t := 39) (p := 1) (v := ?vo_w15) (w1 := (((((w12.setCell ⟨gb333, 0, none⟩ (.int .i64 t324)).setCell ⟨gb333, 1, none⟩ (.string t325)).setCell ⟨gb333, 2, none⟩ (.int .i64 t326)).setCell ⟨gb333, 3, none⟩ (.int .i64 t327)).setCell ⟨gb333, 4, none⟩ (.slice Ao14 t328.length co14))) ?hg ?ho ?hn ?hr ?_; (case ho => rfl); (case hg => rfl); (case hn => rfl); (case hr => first | (go_simp; done) | (go_simp; rfl)); intro w15 hw; have n0_ : Aside0 (Kd.R k39 39 w15 w.heap.size (fun k_ => k_ ≠ gb333) (.slice Ao14 t328.length co14) t328) := ⟨(by rw [hw]; exact (by (with_reducible repeat (first | apply Kd.R_alloc | apply Kd.R_drewN | apply Kd.R_drew)); exact Kd.R_mono (Kd.R_far (p := ⟨gb333, 4, none⟩) (Kd.R_far (p := ⟨gb333, 3, none⟩) (Kd.R_far (p := ⟨gb333, 2, none⟩) (Kd.R_far (p := ⟨gb333, 1, none⟩) (Kd.R_far (p := ⟨gb333, 0, none⟩) (Kd.R_mono HO330.out (fun k_ hk => (⟨hk, hk.2⟩ : _ ∧ k_ ≠ gb333))) (fun _ hk => hk.2) (.int .i64 t324)) (fun _ hk => hk.2) (.string t325)) (fun _ hk => hk.2) (.int .i64 t326)) (fun _ hk => hk.2) (.int .i64 t327)) (fun _ hk => hk.2) (.slice Ao14 t328.length co14)) (fun _ hk => hk.1.2)))⟩; have n1_ : Aside0 (w15.heap[gb333]? = some (.cells #[.int .i64 t324, .string t325, .int .i64 t326, .int .i64 t327, .slice Ao14 t328.length co14] 39 (0, 0))) := ⟨(by rw [hw]; exact (by (with_reducible repeat (first | refine blk_drewN ?_ _ | refine blk_drew ?_ | refine blk_alloc ?_ _)); refine blk_put (cs := #[.int .i64 t324, .string t325, .int .i64 t326, .int .i64 t327, .slice none 0 0]) ?_ 4 _ rfl; (with_reducible repeat (first | refine blk_drewN ?_ _ | refine blk_drew ?_ | refine blk_alloc ?_ _)); refine blk_put (cs := #[.int .i64 t324, .string t325, .int .i64 t326, .int .i64 0, .slice none 0 0]) ?_ 3 _ rfl; (with_reducible repeat (first | refine blk_drewN ?_ _ | refine blk_drew ?_ | refine blk_alloc ?_ _)); refine blk_put (cs := #[.int .i64 t324, .string t325, .int .i64 0, .int .i64 0, .slice none 0 0]) ?_ 2 _ rfl; (with_reducible repeat (first | refine blk_drewN ?_ _ | refine blk_drew ?_ | refine blk_alloc ?_ _)); refine blk_put (cs := #[.int .i64 t324, .string (⟨#[]⟩ : ByteArray), .int .i64 0, .int .i64 0, .slice none 0 0]) ?_ 1 _ rfl; (with_reducible repeat (first | refine blk_drewN ?_ _ | refine blk_drew ?_ | refine blk_alloc ?_ _)); refine blk_put (cs := #[.int .i64 0, .string (⟨#[]⟩ : ByteArray), .int .i64 0, .int .i64 0, .slice none 0 0]) ?_ 0 _ rfl; (with_reducible repeat (first | refine blk_drewN ?_ _ | refine blk_drew ?_ | refine blk_alloc ?_ _)); exact BK333.out))⟩; have n2_ : Aside0 (Below w.heap.size w w15) := ⟨(by rw [hw]; exact (by repeat (first | (with_reducible first | exact HB.out | apply below_alloc | apply pw_below_drewN | apply below_drew1 | refine below_set ?_ GE333.out) | exact HB.out)))⟩; clear hw; clear HO330; clear BK333; clear HB; have HO330 := n0_; have BK333 := n1_; have HB := n2_; clear n0_ n1_ n2_; have hcz16_0 : w15.cell? ⟨gb333, 0, none⟩ = some (.int .i64 t324) := (blk_cell BK333.out 0).trans rfl; have hcz16_1 : w15.cell? ⟨gb333, 1, none⟩ = some (.string t325) := (blk_cell BK333.out 1).trans rfl; have hcz16_2 : w15.cell? ⟨gb333, 2, none⟩ = some (.int .i64 t326) := (blk_cell BK333.out 2).trans rfl; have hcz16_3 : w15.cell? ⟨gb333, 3, none⟩ = some (.int .i64 t327) := (blk_cell BK333.out 3).trans rfl; have hcz16_4 : w15.cell? ⟨gb333, 4, none⟩ = some (.slice Ao14 t328.length co14) := (blk_cell BK333.out 4).trans rfl; have hfz16_0 := blk_frozen BK333.out 0; have hfz16_1 := blk_frozen BK333.out 1; have hfz16_2 := blk_frozen BK333.out 2; have hfz16_3 := blk_frozen BK333.out 3; have hfz16_4 := blk_frozen BK333.out 4; have p334 : 0 ≤ (2 : Int) := (by omega); have q334 : 2 < (t328.length : Int) := of_decide_eq_true (by first | (with_reducible assumption) | assumption); obtain ⟨ad334, A334_4, c334_4, e334, hx334_0, hx334_1, hx334_2, hx334_3, hx334_4, hl334_4, hi334_4⟩ := at_T39 (Kd.R_reads' HO330.out).2.2 2 p334 q334; cases e334; obtain ⟨ce334, hce334, hMe334, hcc334⟩ := Kd.R_get HO330.out z39 2 p334 (by first | exact q334 | exact of_decide_eq_true (by first | (with_reducible assumption) | assumption) | (have e_ := (Kd.R_reads' HO330.out).1; omega)); obtain ⟨ve334_4, rfl, ge334_4⟩ := k39_openM hMe334; have hv334_4 := hcc334 4 _ rfl; rw [add_field _ _ 4 (by omega)] at hv334_4; replace hv334_4 := Option.some.inj (hv334_4.symm.trans hx334_4); rw [hv334_4] at ge334_4; have HL334_4 := Aside0.mk (show Kd.R k39 39 _ _ _ _ ((rd_T39 t328 2).f4) from ge334_4); clear hv334_4 ge334_4; clear hcc334 hce334; (try simp only [show (2 : Int).toNat = 2 from rfl, Nat.reduceMul, Nat.reduceEqDiff, Go.Addr.add, ↓reduceIte] at hx334_0); (try simp only [show (2 : Int).toNat = 2 from rfl, Nat.reduceMul, Nat.reduceEqDiff, Go.Addr.add, ↓reduceIte] at hx334_1); (try simp only [show (2 : Int).toNat = 2 from rfl, Nat.reduceMul, Nat.reduceEqDiff, Go.Addr.add, ↓reduceIte] at hx334_2); (try simp only [show (2 : Int).toNat = 2 from rfl, Nat.reduceMul, Nat.reduceEqDiff, Go.Addr.add, ↓reduceIte] at hx334_3); (try simp only [show (2 : Int).toNat = 2 from rfl, Nat.reduceMul, Nat.reduceEqDiff, Go.Addr.add, ↓reduceIte] at hx334_4); have qi334 : (2 < t328.length) = True := eq_true (by omega); (try rw [show ((2 : Int)).toNat = 2 from rfl] at hx334_0); (try rw [show 2 * 5 = 10 from rfl] at hx334_0); (try rw [show ((2 : Int)).toNat = 2 from rfl] at hx334_1); (try rw [show 2 * 5 = 10 from rfl] at hx334_1); (try rw [show ((2 : Int)).toNat = 2 from rfl] at hx334_2); (try rw [show 2 * 5 = 10 from rfl] at hx334_2); (try rw [show ((2 : Int)).toNat = 2 from rfl] at hx334_3); (try rw [show 2 * 5 = 10 from rfl] at hx334_3); (try rw [show ((2 : Int)).toNat = 2 from rfl] at hx334_4); (try rw [show 2 * 5 = 10 from rfl] at hx334_4); have HR334_4 := Aside0.mk hi334_4; have HC334_4 := Aside0.mk hl334_4; clear hi334_4 hl334_4; replace p334 := eq_true p334; replace q334 := eq_true q334) | (go_at_call 25; (with_reducible refine (sexp_May.calls t324 t325 t326 t327 _ _ t328 true _ ?side1 ?side2 ?side3 A8.out).mono ?_); (case side1 => exact hG.below (by repeat (first | (with_reducible first | exact HB.out | apply below_alloc | apply pw_below_drewN | apply below_drew1 | refine below_set ?_ GE333.out) | exact HB.out))); (case side2 => repeat (first | exact (Kd.R_reads' HO330.out).2.2 | (with_reducible refine Kd.C_alloc ?_ _) | (with_reducible refine Kd.C_drewN ?_ _) | (with_reducible refine Kd.C_drew ?_))); (case side3 => exact (Kd.R_reads' HO330.out).2.1); rintro e w17 ⟨rfl, hb⟩; have n0_ := Aside0.mk (Kd.R_below (by (with_reducible repeat (first | apply Kd.R_alloc | apply Kd.R_drewN | apply Kd.R_drew)); exact HO330.out) hb); have n1_ := Aside0.mk (Kd.R_below (by (with_reducible repeat (first | apply Kd.R_alloc | apply Kd.R_drewN | apply Kd.R_drew)); exact HL334_4.out) hb); have n2_ := Aside0.mk (blk_below (g := gb333) (o := .cells #[.int .i64 t324, .string t325, .int .i64 t326, .int .i64 t327, .slice (some ad334) t328.length co14] 39 (0, 0)) (by (with_reducible repeat (first | refine blk_drewN ?_ _ | refine blk_drew ?_ | refine blk_alloc ?_ _)); exact BK333.out) hb); have n3_ := Aside0.mk (Kd.C_below (by repeat (first | (with_reducible exact HR334_4.out) | (with_reducible refine Kd.C_alloc ?_ _) | (with_reducible refine Kd.C_drewN ?_ _) | (with_reducible refine Kd.C_drew ?_) | exact HR334_4.out)) hb); have n4_ := Aside0.mk (below_step (by repeat (first | (with_reducible first | exact HB.out | apply below_alloc | apply pw_below_drewN | apply below_drew1 | refine below_set ?_ GE333.out) | exact HB.out)) hb); clear HO330; clear HL334_4; clear BK333; clear HR334_4; clear HB; have HO330 := n0_; have HL334_4 := n1_; have BK333 := n2_; have HR334_4 := n3_; have HB := n4_; clear n0_ n1_ n2_ n3_ n4_; (try clear hb); (try clear hb2); (try clear hk); (try clear hi); have hcz18_0 : w17.cell? ⟨gb333, 0, none⟩ = some (.int .i64 t324) := (blk_cell BK333.out 0).trans rfl; have hcz18_1 : w17.cell? ⟨gb333, 1, none⟩ = some (.string t325) := (blk_cell BK333.out 1).trans rfl; have hcz18_2 : w17.cell? ⟨gb333, 2, none⟩ = some (.int .i64 t326) := (blk_cell BK333.out 2).trans rfl; have hcz18_3 : w17.cell? ⟨gb333, 3, none⟩ = some (.int .i64 t327) := (blk_cell BK333.out 3).trans rfl; have hcz18_4 : w17.cell? ⟨gb333, 4, none⟩ = some (.slice (some ad334) t328.length co14) := (blk_cell BK333.out 4).trans rfl; have hfz18_0 := blk_frozen BK333.out 0; have hfz18_1 := blk_frozen BK333.out 1; have hfz18_2 := blk_frozen BK333.out 2; have hfz18_3 := blk_frozen BK333.out 3; have hfz18_4 := blk_frozen BK333.out 4) | (go_at_call 30; (with_reducible refine (sexp_Print.calls t324 t325 t326 t327 _ _ t328 t336 _ ?side1 ?side2 ?side3 A10.out).mono ?_); (case side1 => exact hG.below (by repeat (first | (with_reducible first | exact HB.out | apply below_alloc | apply pw_below_drewN | apply below_drew1 | refine below_set ?_ GE333.out) | exact HB.out))); (case side2 => repeat (first | exact (Kd.R_reads' HO330.out).2.2 | (with_reducible refine Kd.C_alloc ?_ _) | (with_reducible refine Kd.C_drewN ?_ _) | (with_reducible refine Kd.C_drew ?_))); (case side3 => exact (Kd.R_reads' HO330.out).2.1); rintro e w19 ⟨rfl, hb⟩; have n0_ := Aside0.mk (Kd.R_below (by (with_reducible repeat (first | apply Kd.R_alloc | apply Kd.R_drewN | apply Kd.R_drew)); exact HO330.out) hb); have n1_ := Aside0.mk (Kd.R_below (by (with_reducible repeat (first | apply Kd.R_alloc | apply Kd.R_drewN | apply Kd.R_drew)); exact HL334_4.out) hb); have n2_ := Aside0.mk (blk_below (g := gb333) (o := .cells #[.int .i64 t324, .string t325, .int .i64 t326, .int .i64 t327, .slice (some ad334) t328.length co14] 39 (0, 0)) (by (with_reducible repeat (first | refine blk_drewN ?_ _ | refine blk_drew ?_ | refine blk_alloc ?_ _)); exact BK333.out) hb); have n3_ := Aside0.mk (Kd.C_below (by repeat (first | (with_reducible exact HR334_4.out) | (with_reducible refine Kd.C_alloc ?_ _) | (with_reducible refine Kd.C_drewN ?_ _) | (with_reducible refine Kd.C_drew ?_) | exact HR334_4.out)) hb); have n4_ := Aside0.mk (below_step (by repeat (first | (with_reducible first | exact HB.out | apply below_alloc | apply pw_below_drewN | apply below_drew1 | refine below_set ?_ GE333.out) | exact HB.out)) hb); clear HO330; clear HL334_4; clear BK333; clear HR334_4; clear HB; have HO330 := n0_; have HL334_4 := n1_; have BK333 := n2_; have HR334_4 := n3_; have HB := n4_; clear n0_ n1_ n2_ n3_ n4_; (try clear hb); (try clear hb2); (try clear hk); (try clear hi)))
                go_ret
                exact ⟨by first | rfl | (simp [] <;> rfl) | (simp [*] <;> rfl), by repeat (first | (with_reducible first | exact HB.out | apply below_alloc | apply pw_below_drewN | apply below_drew1 | refine below_set ?_ GE333.out) | exact HB.out)⟩
              · replace c9 := Bool.eq_false_iff.mpr c9
                subst c9
                have H1 : (some false) = some r := by first | (rw [if_neg (show ¬ (false = true) by decide)] at H; exact H) | rfl
                clear H
                have H := H1
                clear H1
                obtain rfl := Option.some.inj H
                go_enter Tryd.func23, Tryd.ntmps23
                go_wp2_with (first | ((with_reducible refine gate_callee (f := 24) rfl ?_); refine goesL_ (some 5) rfl rfl Tryd.func24 (by kernel_rfl) rfl #[.string (⟨#[40, 101, 113, 32, 97, 32, 53, 41]⟩ : ByteArray)] rfl (by (try simp only [List.map_toArray, List.map_cons, List.map_nil]); first | done | rfl | (simp only [List.length_drop, List.length_take]; rfl)) ?_; (with_reducible refine (sexp_Parse.calls (⟨#[40, 101, 113, 32, 97, 32, 53, 41]⟩ : ByteArray) t324 t325 t326 t327 t328 t331 t332 _ ?side1 A1.out).mono ?_); (case side1 => exact hG.below (by repeat (first | (with_reducible first | exact HB.out | apply below_alloc | apply pw_below_drewN | apply below_drew1) | exact HB.out))); rintro e w20 ⟨v329, rfl, ho0, hb⟩; refine ⟨_, rfl, ?_⟩; have n0_ := Aside0.mk (Kd.R_lower ho0 (below_size (by repeat (first | (with_reducible first | exact HB.out | apply below_alloc | apply pw_below_drewN | apply below_drew1) | exact HB.out)))); have n1_ := Aside0.mk (below_step (by repeat (first | (with_reducible first | exact HB.out | apply below_alloc | apply pw_below_drewN | apply below_drew1) | exact HB.out)) hb); clear HB; have HO330 := n0_; have HB := n1_; clear n0_ n1_; (try clear hb); (try clear hb2); (try clear hk); (try clear hi); (try clear ho0)) | ((with_reducible refine gate_dst (N := 1) rfl ?_); (try (refine gate_guard (by rfl) ?_; dsimp only)); refine box_event ?hg (N := 1) ?hd (cs := #[.int .i64 0, .string (⟨#[]⟩ : ByteArray), .int .i64 0, .int .i64 0, .slice none 0 0]) (t := 39) ?hr ?_; (case hd => rfl); (case hg => rfl); (case hr => first | (go_simp; done) | (go_simp; rfl)); intro gb333 hg w21 hbox hb; have n0_ := Aside0.mk (Kd.R_below (Kd.R_elderB (by (with_reducible repeat (first | apply Kd.R_alloc | apply Kd.R_drewN | apply Kd.R_drew)); exact HO330.out) gb333 (Nat.le_of_eq hg.symm)) hb); have n1_ := Aside0.mk (below_step (by repeat (first | (with_reducible first | exact HB.out | apply below_alloc | apply pw_below_drewN | apply below_drew1) | exact HB.out)) hb); have n2_ := Aside0.mk (hbox); have n3_ := Aside0.mk ((by rw [hg]; exact (below_size (by repeat (first | (with_reducible first | exact HB.out | apply below_alloc | apply pw_below_drewN | apply below_drew1) | exact HB.out))) : w.heap.size ≤ gb333)); have n4_ := Aside0.mk ((by rw [hg]; exact (below_size (by repeat (first | (with_reducible first | exact HB.out | apply below_alloc | apply pw_below_drewN | apply below_drew1) | exact HB.out))) : w.heap.size ≤ gb333)); clear HO330; clear HB; have HO330 := n0_; have HB := n1_; have BK333 := n2_; have GW333 := n3_; have GE333 := n4_; clear n0_ n1_ n2_ n3_ n4_; clear hb hbox hg; have hcz22_0 : w21.cell? ⟨gb333, 0, none⟩ = some (.int .i64 0) := (blk_cell BK333.out 0).trans rfl; have hcz22_1 : w21.cell? ⟨gb333, 1, none⟩ = some (.string (⟨#[]⟩ : ByteArray)) := (blk_cell BK333.out 1).trans rfl; have hcz22_2 : w21.cell? ⟨gb333, 2, none⟩ = some (.int .i64 0) := (blk_cell BK333.out 2).trans rfl; have hcz22_3 : w21.cell? ⟨gb333, 3, none⟩ = some (.int .i64 0) := (blk_cell BK333.out 3).trans rfl; have hcz22_4 : w21.cell? ⟨gb333, 4, none⟩ = some (.slice none 0 0) := (blk_cell BK333.out 4).trans rfl; have hfz22_0 := blk_frozen BK333.out 0; have hfz22_1 := blk_frozen BK333.out 1; have hfz22_2 := blk_frozen BK333.out 2; have hfz22_3 := blk_frozen BK333.out 3; have hfz22_4 := blk_frozen BK333.out 4; obtain ⟨Ao23, co23, eo23⟩ := Kd.R_slice HO330.out; subst eo23) | ((with_reducible refine gate_store (t := 39) (p := 1) rfl ?_); refine store_event (t := 39) (p := 1) (v := ?vo_w24) (w1 := (((((w21.setCell ⟨gb333, 0, none⟩ (.int .i64 t324)).setCell ⟨gb333, 1, none⟩ (.string t325)).setCell ⟨gb333, 2, none⟩ (.int .i64 t326)).setCell ⟨gb333, 3, none⟩ (.int .i64 t327)).setCell ⟨gb333, 4, none⟩ (.slice Ao23 t328.length co23))) ?hg ?ho ?hn ?hr ?_; (case ho => rfl); (case hg => rfl); (case hn => rfl); (case hr => first | (go_simp; done) | (go_simp; rfl)); intro w24 hw; have n0_ : Aside0 (Kd.R k39 39 w24 w.heap.size (fun k_ => k_ ≠ gb333) (.slice Ao23 t328.length co23) t328) := ⟨(by rw [hw]; exact (by (with_reducible repeat (first | apply Kd.R_alloc | apply Kd.R_drewN | apply Kd.R_drew)); exact Kd.R_mono (Kd.R_far (p := ⟨gb333, 4, none⟩) (Kd.R_far (p := ⟨gb333, 3, none⟩) (Kd.R_far (p := ⟨gb333, 2, none⟩) (Kd.R_far (p := ⟨gb333, 1, none⟩) (Kd.R_far (p := ⟨gb333, 0, none⟩) (Kd.R_mono HO330.out (fun k_ hk => (⟨hk, hk.2⟩ : _ ∧ k_ ≠ gb333))) (fun _ hk => hk.2) (.int .i64 t324)) (fun _ hk => hk.2) (.string t325)) (fun _ hk => hk.2) (.int .i64 t326)) (fun _ hk => hk.2) (.int .i64 t327)) (fun _ hk => hk.2) (.slice Ao23 t328.length co23)) (fun _ hk => hk.1.2)))⟩; have n1_ : Aside0 (w24.heap[gb333]? = some (.cells #[.int .i64 t324, .string t325, .int .i64 t326, .int .i64 t327, .slice Ao23 t328.length co23] 39 (0, 0))) := ⟨(by rw [hw]; exact (by (with_reducible repeat (first | refine blk_drewN ?_ _ | refine blk_drew ?_ | refine blk_alloc ?_ _)); refine blk_put (cs := #[.int .i64 t324, .string t325, .int .i64 t326, .int .i64 t327, .slice none 0 0]) ?_ 4 _ rfl; (with_reducible repeat (first | refine blk_drewN ?_ _ | refine blk_drew ?_ | refine blk_alloc ?_ _)); refine blk_put (cs := #[.int .i64 t324, .string t325, .int .i64 t326, .int .i64 0, .slice none 0 0]) ?_ 3 _ rfl; (with_reducible repeat (first | refine blk_drewN ?_ _ | refine blk_drew ?_ | refine blk_alloc ?_ _)); refine blk_put (cs := #[.int .i64 t324, .string t325, .int .i64 0, .int .i64 0, .slice none 0 0]) ?_ 2 _ rfl; (with_reducible repeat (first | refine blk_drewN ?_ _ | refine blk_drew ?_ | refine blk_alloc ?_ _)); refine blk_put (cs := #[.int .i64 t324, .string (⟨#[]⟩ : ByteArray), .int .i64 0, .int .i64 0, .slice none 0 0]) ?_ 1 _ rfl; (with_reducible repeat (first | refine blk_drewN ?_ _ | refine blk_drew ?_ | refine blk_alloc ?_ _)); refine blk_put (cs := #[.int .i64 0, .string (⟨#[]⟩ : ByteArray), .int .i64 0, .int .i64 0, .slice none 0 0]) ?_ 0 _ rfl; (with_reducible repeat (first | refine blk_drewN ?_ _ | refine blk_drew ?_ | refine blk_alloc ?_ _)); exact BK333.out))⟩; have n2_ : Aside0 (Below w.heap.size w w24) := ⟨(by rw [hw]; exact (by repeat (first | (with_reducible first | exact HB.out | apply below_alloc | apply pw_below_drewN | apply below_drew1 | refine below_set ?_ GE333.out) | exact HB.out)))⟩; clear hw; clear HO330; clear BK333; clear HB; have HO330 := n0_; have BK333 := n1_; have HB := n2_; clear n0_ n1_ n2_; have hcz25_0 : w24.cell? ⟨gb333, 0, none⟩ = some (.int .i64 t324) := (blk_cell BK333.out 0).trans rfl; have hcz25_1 : w24.cell? ⟨gb333, 1, none⟩ = some (.string t325) := (blk_cell BK333.out 1).trans rfl; have hcz25_2 : w24.cell? ⟨gb333, 2, none⟩ = some (.int .i64 t326) := (blk_cell BK333.out 2).trans rfl; have hcz25_3 : w24.cell? ⟨gb333, 3, none⟩ = some (.int .i64 t327) := (blk_cell BK333.out 3).trans rfl; have hcz25_4 : w24.cell? ⟨gb333, 4, none⟩ = some (.slice Ao23 t328.length co23) := (blk_cell BK333.out 4).trans rfl; have hfz25_0 := blk_frozen BK333.out 0; have hfz25_1 := blk_frozen BK333.out 1; have hfz25_2 := blk_frozen BK333.out 2; have hfz25_3 := blk_frozen BK333.out 3; have hfz25_4 := blk_frozen BK333.out 4; have p334 : 0 ≤ (2 : Int) := (by omega); have q334 : 2 < (t328.length : Int) := of_decide_eq_true (by first | (with_reducible assumption) | assumption); obtain ⟨ad334, A334_4, c334_4, e334, hx334_0, hx334_1, hx334_2, hx334_3, hx334_4, hl334_4, hi334_4⟩ := at_T39 (Kd.R_reads' HO330.out).2.2 2 p334 q334; cases e334; obtain ⟨ce334, hce334, hMe334, hcc334⟩ := Kd.R_get HO330.out z39 2 p334 (by first | exact q334 | exact of_decide_eq_true (by first | (with_reducible assumption) | assumption) | (have e_ := (Kd.R_reads' HO330.out).1; omega)); obtain ⟨ve334_4, rfl, ge334_4⟩ := k39_openM hMe334; have hv334_4 := hcc334 4 _ rfl; rw [add_field _ _ 4 (by omega)] at hv334_4; replace hv334_4 := Option.some.inj (hv334_4.symm.trans hx334_4); rw [hv334_4] at ge334_4; have HL334_4 := Aside0.mk (show Kd.R k39 39 _ _ _ _ ((rd_T39 t328 2).f4) from ge334_4); clear hv334_4 ge334_4; clear hcc334 hce334; (try simp only [show (2 : Int).toNat = 2 from rfl, Nat.reduceMul, Nat.reduceEqDiff, Go.Addr.add, ↓reduceIte] at hx334_0); (try simp only [show (2 : Int).toNat = 2 from rfl, Nat.reduceMul, Nat.reduceEqDiff, Go.Addr.add, ↓reduceIte] at hx334_1); (try simp only [show (2 : Int).toNat = 2 from rfl, Nat.reduceMul, Nat.reduceEqDiff, Go.Addr.add, ↓reduceIte] at hx334_2); (try simp only [show (2 : Int).toNat = 2 from rfl, Nat.reduceMul, Nat.reduceEqDiff, Go.Addr.add, ↓reduceIte] at hx334_3); (try simp only [show (2 : Int).toNat = 2 from rfl, Nat.reduceMul, Nat.reduceEqDiff, Go.Addr.add, ↓reduceIte] at hx334_4); have qi334 : (2 < t328.length) = True := eq_true (by omega); (try rw [show ((2 : Int)).toNat = 2 from rfl] at hx334_0); (try rw [show 2 * 5 = 10 from rfl] at hx334_0); (try rw [show ((2 : Int)).toNat = 2 from rfl] at hx334_1); (try rw [show 2 * 5 = 10 from rfl] at hx334_1); (try rw [show ((2 : Int)).toNat = 2 from rfl] at hx334_2); (try rw [show 2 * 5 = 10 from rfl] at hx334_2); (try rw [show ((2 : Int)).toNat = 2 from rfl] at hx334_3); (try rw [show 2 * 5 = 10 from rfl] at hx334_3); (try rw [show ((2 : Int)).toNat = 2 from rfl] at hx334_4); (try rw [show 2 * 5 = 10 from rfl] at hx334_4); have HR334_4 := Aside0.mk hi334_4; have HC334_4 := Aside0.mk hl334_4; clear hi334_4 hl334_4; replace p334 := eq_true p334; replace q334 := eq_true q334) | (go_at_call 25; (with_reducible refine (sexp_May.calls t324 t325 t326 t327 _ _ t328 false _ ?side1 ?side2 ?side3 A8.out).mono ?_); (case side1 => exact hG.below (by repeat (first | (with_reducible first | exact HB.out | apply below_alloc | apply pw_below_drewN | apply below_drew1 | refine below_set ?_ GE333.out) | exact HB.out))); (case side2 => repeat (first | exact (Kd.R_reads' HO330.out).2.2 | (with_reducible refine Kd.C_alloc ?_ _) | (with_reducible refine Kd.C_drewN ?_ _) | (with_reducible refine Kd.C_drew ?_))); (case side3 => exact (Kd.R_reads' HO330.out).2.1); rintro e w26 ⟨rfl, hb⟩; have n0_ := Aside0.mk (Kd.R_below (by (with_reducible repeat (first | apply Kd.R_alloc | apply Kd.R_drewN | apply Kd.R_drew)); exact HO330.out) hb); have n1_ := Aside0.mk (Kd.R_below (by (with_reducible repeat (first | apply Kd.R_alloc | apply Kd.R_drewN | apply Kd.R_drew)); exact HL334_4.out) hb); have n2_ := Aside0.mk (blk_below (g := gb333) (o := .cells #[.int .i64 t324, .string t325, .int .i64 t326, .int .i64 t327, .slice (some ad334) t328.length co23] 39 (0, 0)) (by (with_reducible repeat (first | refine blk_drewN ?_ _ | refine blk_drew ?_ | refine blk_alloc ?_ _)); exact BK333.out) hb); have n3_ := Aside0.mk (Kd.C_below (by repeat (first | (with_reducible exact HR334_4.out) | (with_reducible refine Kd.C_alloc ?_ _) | (with_reducible refine Kd.C_drewN ?_ _) | (with_reducible refine Kd.C_drew ?_) | exact HR334_4.out)) hb); have n4_ := Aside0.mk (below_step (by repeat (first | (with_reducible first | exact HB.out | apply below_alloc | apply pw_below_drewN | apply below_drew1 | refine below_set ?_ GE333.out) | exact HB.out)) hb); clear HO330; clear HL334_4; clear BK333; clear HR334_4; clear HB; have HO330 := n0_; have HL334_4 := n1_; have BK333 := n2_; have HR334_4 := n3_; have HB := n4_; clear n0_ n1_ n2_ n3_ n4_; (try clear hb); (try clear hb2); (try clear hk); (try clear hi)))
                go_ret
                exact ⟨by first | rfl | (simp [] <;> rfl) | (simp [*] <;> rfl), by repeat (first | (with_reducible first | exact HB.out | apply below_alloc | apply pw_below_drewN | apply below_drew1 | refine below_set ?_ GE333.out) | exact HB.out)⟩
            · rw [if_neg c7] at H
              have c7b0 : (((rd_T39 t328 2).f2) == 5) = false := beq_eq_false_iff_ne.mpr c7
              have c7b1 : (((rd_T39 t328 2).f2) != 5) = true := bne_iff_ne.mpr c7
              obtain rfl := Option.some.inj H
              go_enter Tryd.func23, Tryd.ntmps23
              go_wp2_with (first | ((with_reducible refine gate_callee (f := 24) rfl ?_); refine goesL_ (some 5) rfl rfl Tryd.func24 (by kernel_rfl) rfl #[.string (⟨#[40, 101, 113, 32, 97, 32, 53, 41]⟩ : ByteArray)] rfl (by (try simp only [List.map_toArray, List.map_cons, List.map_nil]); first | done | rfl | (simp only [List.length_drop, List.length_take]; rfl)) ?_; (with_reducible refine (sexp_Parse.calls (⟨#[40, 101, 113, 32, 97, 32, 53, 41]⟩ : ByteArray) t324 t325 t326 t327 t328 t331 t332 _ ?side1 A1.out).mono ?_); (case side1 => exact hG.below (by repeat (first | (with_reducible first | exact HB.out | apply below_alloc | apply pw_below_drewN | apply below_drew1) | exact HB.out))); rintro e w27 ⟨v329, rfl, ho0, hb⟩; refine ⟨_, rfl, ?_⟩; have n0_ := Aside0.mk (Kd.R_lower ho0 (below_size (by repeat (first | (with_reducible first | exact HB.out | apply below_alloc | apply pw_below_drewN | apply below_drew1) | exact HB.out)))); have n1_ := Aside0.mk (below_step (by repeat (first | (with_reducible first | exact HB.out | apply below_alloc | apply pw_below_drewN | apply below_drew1) | exact HB.out)) hb); clear HB; have HO330 := n0_; have HB := n1_; clear n0_ n1_; (try clear hb); (try clear hb2); (try clear hk); (try clear hi); (try clear ho0)) | ((with_reducible refine gate_dst (N := 1) rfl ?_); (try (refine gate_guard (by rfl) ?_; dsimp only)); refine box_event ?hg (N := 1) ?hd (cs := #[.int .i64 0, .string (⟨#[]⟩ : ByteArray), .int .i64 0, .int .i64 0, .slice none 0 0]) (t := 39) ?hr ?_; (case hd => rfl); (case hg => rfl); (case hr => first | (go_simp; done) | (go_simp; rfl)); intro gb333 hg w28 hbox hb; have n0_ := Aside0.mk (Kd.R_below (Kd.R_elderB (by (with_reducible repeat (first | apply Kd.R_alloc | apply Kd.R_drewN | apply Kd.R_drew)); exact HO330.out) gb333 (Nat.le_of_eq hg.symm)) hb); have n1_ := Aside0.mk (below_step (by repeat (first | (with_reducible first | exact HB.out | apply below_alloc | apply pw_below_drewN | apply below_drew1) | exact HB.out)) hb); have n2_ := Aside0.mk (hbox); have n3_ := Aside0.mk ((by rw [hg]; exact (below_size (by repeat (first | (with_reducible first | exact HB.out | apply below_alloc | apply pw_below_drewN | apply below_drew1) | exact HB.out))) : w.heap.size ≤ gb333)); have n4_ := Aside0.mk ((by rw [hg]; exact (below_size (by repeat (first | (with_reducible first | exact HB.out | apply below_alloc | apply pw_below_drewN | apply below_drew1) | exact HB.out))) : w.heap.size ≤ gb333)); clear HO330; clear HB; have HO330 := n0_; have HB := n1_; have BK333 := n2_; have GW333 := n3_; have GE333 := n4_; clear n0_ n1_ n2_ n3_ n4_; clear hb hbox hg; have hcz29_0 : w28.cell? ⟨gb333, 0, none⟩ = some (.int .i64 0) := (blk_cell BK333.out 0).trans rfl; have hcz29_1 : w28.cell? ⟨gb333, 1, none⟩ = some (.string (⟨#[]⟩ : ByteArray)) := (blk_cell BK333.out 1).trans rfl; have hcz29_2 : w28.cell? ⟨gb333, 2, none⟩ = some (.int .i64 0) := (blk_cell BK333.out 2).trans rfl; have hcz29_3 : w28.cell? ⟨gb333, 3, none⟩ = some (.int .i64 0) := (blk_cell BK333.out 3).trans rfl; have hcz29_4 : w28.cell? ⟨gb333, 4, none⟩ = some (.slice none 0 0) := (blk_cell BK333.out 4).trans rfl; have hfz29_0 := blk_frozen BK333.out 0; have hfz29_1 := blk_frozen BK333.out 1; have hfz29_2 := blk_frozen BK333.out 2; have hfz29_3 := blk_frozen BK333.out 3; have hfz29_4 := blk_frozen BK333.out 4; obtain ⟨Ao30, co30, eo30⟩ := Kd.R_slice HO330.out; subst eo30) | ((with_reducible refine gate_store (t := 39) (p := 1) rfl ?_); refine store_event (t := 39) (p := 1) (v := ?vo_w31) (w1 := (((((w28.setCell ⟨gb333, 0, none⟩ (.int .i64 t324)).setCell ⟨gb333, 1, none⟩ (.string t325)).setCell ⟨gb333, 2, none⟩ (.int .i64 t326)).setCell ⟨gb333, 3, none⟩ (.int .i64 t327)).setCell ⟨gb333, 4, none⟩ (.slice Ao30 t328.length co30))) ?hg ?ho ?hn ?hr ?_; (case ho => rfl); (case hg => rfl); (case hn => rfl); (case hr => first | (go_simp; done) | (go_simp; rfl)); intro w31 hw; have n0_ : Aside0 (Kd.R k39 39 w31 w.heap.size (fun k_ => k_ ≠ gb333) (.slice Ao30 t328.length co30) t328) := ⟨(by rw [hw]; exact (by (with_reducible repeat (first | apply Kd.R_alloc | apply Kd.R_drewN | apply Kd.R_drew)); exact Kd.R_mono (Kd.R_far (p := ⟨gb333, 4, none⟩) (Kd.R_far (p := ⟨gb333, 3, none⟩) (Kd.R_far (p := ⟨gb333, 2, none⟩) (Kd.R_far (p := ⟨gb333, 1, none⟩) (Kd.R_far (p := ⟨gb333, 0, none⟩) (Kd.R_mono HO330.out (fun k_ hk => (⟨hk, hk.2⟩ : _ ∧ k_ ≠ gb333))) (fun _ hk => hk.2) (.int .i64 t324)) (fun _ hk => hk.2) (.string t325)) (fun _ hk => hk.2) (.int .i64 t326)) (fun _ hk => hk.2) (.int .i64 t327)) (fun _ hk => hk.2) (.slice Ao30 t328.length co30)) (fun _ hk => hk.1.2)))⟩; have n1_ : Aside0 (w31.heap[gb333]? = some (.cells #[.int .i64 t324, .string t325, .int .i64 t326, .int .i64 t327, .slice Ao30 t328.length co30] 39 (0, 0))) := ⟨(by rw [hw]; exact (by (with_reducible repeat (first | refine blk_drewN ?_ _ | refine blk_drew ?_ | refine blk_alloc ?_ _)); refine blk_put (cs := #[.int .i64 t324, .string t325, .int .i64 t326, .int .i64 t327, .slice none 0 0]) ?_ 4 _ rfl; (with_reducible repeat (first | refine blk_drewN ?_ _ | refine blk_drew ?_ | refine blk_alloc ?_ _)); refine blk_put (cs := #[.int .i64 t324, .string t325, .int .i64 t326, .int .i64 0, .slice none 0 0]) ?_ 3 _ rfl; (with_reducible repeat (first | refine blk_drewN ?_ _ | refine blk_drew ?_ | refine blk_alloc ?_ _)); refine blk_put (cs := #[.int .i64 t324, .string t325, .int .i64 0, .int .i64 0, .slice none 0 0]) ?_ 2 _ rfl; (with_reducible repeat (first | refine blk_drewN ?_ _ | refine blk_drew ?_ | refine blk_alloc ?_ _)); refine blk_put (cs := #[.int .i64 t324, .string (⟨#[]⟩ : ByteArray), .int .i64 0, .int .i64 0, .slice none 0 0]) ?_ 1 _ rfl; (with_reducible repeat (first | refine blk_drewN ?_ _ | refine blk_drew ?_ | refine blk_alloc ?_ _)); refine blk_put (cs := #[.int .i64 0, .string (⟨#[]⟩ : ByteArray), .int .i64 0, .int .i64 0, .slice none 0 0]) ?_ 0 _ rfl; (with_reducible repeat (first | refine blk_drewN ?_ _ | refine blk_drew ?_ | refine blk_alloc ?_ _)); exact BK333.out))⟩; have n2_ : Aside0 (Below w.heap.size w w31) := ⟨(by rw [hw]; exact (by repeat (first | (with_reducible first | exact HB.out | apply below_alloc | apply pw_below_drewN | apply below_drew1 | refine below_set ?_ GE333.out) | exact HB.out)))⟩; clear hw; clear HO330; clear BK333; clear HB; have HO330 := n0_; have BK333 := n1_; have HB := n2_; clear n0_ n1_ n2_; have hcz32_0 : w31.cell? ⟨gb333, 0, none⟩ = some (.int .i64 t324) := (blk_cell BK333.out 0).trans rfl; have hcz32_1 : w31.cell? ⟨gb333, 1, none⟩ = some (.string t325) := (blk_cell BK333.out 1).trans rfl; have hcz32_2 : w31.cell? ⟨gb333, 2, none⟩ = some (.int .i64 t326) := (blk_cell BK333.out 2).trans rfl; have hcz32_3 : w31.cell? ⟨gb333, 3, none⟩ = some (.int .i64 t327) := (blk_cell BK333.out 3).trans rfl; have hcz32_4 : w31.cell? ⟨gb333, 4, none⟩ = some (.slice Ao30 t328.length co30) := (blk_cell BK333.out 4).trans rfl; have hfz32_0 := blk_frozen BK333.out 0; have hfz32_1 := blk_frozen BK333.out 1; have hfz32_2 := blk_frozen BK333.out 2; have hfz32_3 := blk_frozen BK333.out 3; have hfz32_4 := blk_frozen BK333.out 4; have p334 : 0 ≤ (2 : Int) := (by omega); have q334 : 2 < (t328.length : Int) := of_decide_eq_true (by first | (with_reducible assumption) | assumption); obtain ⟨ad334, A334_4, c334_4, e334, hx334_0, hx334_1, hx334_2, hx334_3, hx334_4, hl334_4, hi334_4⟩ := at_T39 (Kd.R_reads' HO330.out).2.2 2 p334 q334; cases e334; obtain ⟨ce334, hce334, hMe334, hcc334⟩ := Kd.R_get HO330.out z39 2 p334 (by first | exact q334 | exact of_decide_eq_true (by first | (with_reducible assumption) | assumption) | (have e_ := (Kd.R_reads' HO330.out).1; omega)); obtain ⟨ve334_4, rfl, ge334_4⟩ := k39_openM hMe334; have hv334_4 := hcc334 4 _ rfl; rw [add_field _ _ 4 (by omega)] at hv334_4; replace hv334_4 := Option.some.inj (hv334_4.symm.trans hx334_4); rw [hv334_4] at ge334_4; have HL334_4 := Aside0.mk (show Kd.R k39 39 _ _ _ _ ((rd_T39 t328 2).f4) from ge334_4); clear hv334_4 ge334_4; clear hcc334 hce334; (try simp only [show (2 : Int).toNat = 2 from rfl, Nat.reduceMul, Nat.reduceEqDiff, Go.Addr.add, ↓reduceIte] at hx334_0); (try simp only [show (2 : Int).toNat = 2 from rfl, Nat.reduceMul, Nat.reduceEqDiff, Go.Addr.add, ↓reduceIte] at hx334_1); (try simp only [show (2 : Int).toNat = 2 from rfl, Nat.reduceMul, Nat.reduceEqDiff, Go.Addr.add, ↓reduceIte] at hx334_2); (try simp only [show (2 : Int).toNat = 2 from rfl, Nat.reduceMul, Nat.reduceEqDiff, Go.Addr.add, ↓reduceIte] at hx334_3); (try simp only [show (2 : Int).toNat = 2 from rfl, Nat.reduceMul, Nat.reduceEqDiff, Go.Addr.add, ↓reduceIte] at hx334_4); have qi334 : (2 < t328.length) = True := eq_true (by omega); (try rw [show ((2 : Int)).toNat = 2 from rfl] at hx334_0); (try rw [show 2 * 5 = 10 from rfl] at hx334_0); (try rw [show ((2 : Int)).toNat = 2 from rfl] at hx334_1); (try rw [show 2 * 5 = 10 from rfl] at hx334_1); (try rw [show ((2 : Int)).toNat = 2 from rfl] at hx334_2); (try rw [show 2 * 5 = 10 from rfl] at hx334_2); (try rw [show ((2 : Int)).toNat = 2 from rfl] at hx334_3); (try rw [show 2 * 5 = 10 from rfl] at hx334_3); (try rw [show ((2 : Int)).toNat = 2 from rfl] at hx334_4); (try rw [show 2 * 5 = 10 from rfl] at hx334_4); have HR334_4 := Aside0.mk hi334_4; have HC334_4 := Aside0.mk hl334_4; clear hi334_4 hl334_4; replace p334 := eq_true p334; replace q334 := eq_true q334))
              go_ret
              exact ⟨by first | rfl | (simp [] <;> rfl) | (simp [*] <;> rfl), by repeat (first | (with_reducible first | exact HB.out | apply below_alloc | apply pw_below_drewN | apply below_drew1 | refine below_set ?_ GE333.out) | exact HB.out)⟩
          · rw [if_neg c6] at H
            exact absurd H (by simp)
        · rw [if_neg c5] at H
          have c5b0 : ((t328.length : Int) == 3) = false := beq_eq_false_iff_ne.mpr c5
          have c5b1 : ((t328.length : Int) != 3) = true := bne_iff_ne.mpr c5
          obtain rfl := Option.some.inj H
          go_enter Tryd.func23, Tryd.ntmps23
          go_wp2_with (first | ((with_reducible refine gate_callee (f := 24) rfl ?_); refine goesL_ (some 5) rfl rfl Tryd.func24 (by kernel_rfl) rfl #[.string (⟨#[40, 101, 113, 32, 97, 32, 53, 41]⟩ : ByteArray)] rfl (by (try simp only [List.map_toArray, List.map_cons, List.map_nil]); first | done | rfl | (simp only [List.length_drop, List.length_take]; rfl)) ?_; (with_reducible refine (sexp_Parse.calls (⟨#[40, 101, 113, 32, 97, 32, 53, 41]⟩ : ByteArray) t324 t325 t326 t327 t328 t331 t332 _ ?side1 A1.out).mono ?_); (case side1 => exact hG.below (by repeat (first | (with_reducible first | exact HB.out | apply below_alloc | apply pw_below_drewN | apply below_drew1) | exact HB.out))); rintro e w33 ⟨v329, rfl, ho0, hb⟩; refine ⟨_, rfl, ?_⟩; have n0_ := Aside0.mk (Kd.R_lower ho0 (below_size (by repeat (first | (with_reducible first | exact HB.out | apply below_alloc | apply pw_below_drewN | apply below_drew1) | exact HB.out)))); have n1_ := Aside0.mk (below_step (by repeat (first | (with_reducible first | exact HB.out | apply below_alloc | apply pw_below_drewN | apply below_drew1) | exact HB.out)) hb); clear HB; have HO330 := n0_; have HB := n1_; clear n0_ n1_; (try clear hb); (try clear hb2); (try clear hk); (try clear hi); (try clear ho0)) | ((with_reducible refine gate_dst (N := 1) rfl ?_); (try (refine gate_guard (by rfl) ?_; dsimp only)); refine box_event ?hg (N := 1) ?hd (cs := #[.int .i64 0, .string (⟨#[]⟩ : ByteArray), .int .i64 0, .int .i64 0, .slice none 0 0]) (t := 39) ?hr ?_; (case hd => rfl); (case hg => rfl); (case hr => first | (go_simp; done) | (go_simp; rfl)); intro gb333 hg w34 hbox hb; have n0_ := Aside0.mk (Kd.R_below (Kd.R_elderB (by (with_reducible repeat (first | apply Kd.R_alloc | apply Kd.R_drewN | apply Kd.R_drew)); exact HO330.out) gb333 (Nat.le_of_eq hg.symm)) hb); have n1_ := Aside0.mk (below_step (by repeat (first | (with_reducible first | exact HB.out | apply below_alloc | apply pw_below_drewN | apply below_drew1) | exact HB.out)) hb); have n2_ := Aside0.mk (hbox); have n3_ := Aside0.mk ((by rw [hg]; exact (below_size (by repeat (first | (with_reducible first | exact HB.out | apply below_alloc | apply pw_below_drewN | apply below_drew1) | exact HB.out))) : w.heap.size ≤ gb333)); have n4_ := Aside0.mk ((by rw [hg]; exact (below_size (by repeat (first | (with_reducible first | exact HB.out | apply below_alloc | apply pw_below_drewN | apply below_drew1) | exact HB.out))) : w.heap.size ≤ gb333)); clear HO330; clear HB; have HO330 := n0_; have HB := n1_; have BK333 := n2_; have GW333 := n3_; have GE333 := n4_; clear n0_ n1_ n2_ n3_ n4_; clear hb hbox hg; have hcz35_0 : w34.cell? ⟨gb333, 0, none⟩ = some (.int .i64 0) := (blk_cell BK333.out 0).trans rfl; have hcz35_1 : w34.cell? ⟨gb333, 1, none⟩ = some (.string (⟨#[]⟩ : ByteArray)) := (blk_cell BK333.out 1).trans rfl; have hcz35_2 : w34.cell? ⟨gb333, 2, none⟩ = some (.int .i64 0) := (blk_cell BK333.out 2).trans rfl; have hcz35_3 : w34.cell? ⟨gb333, 3, none⟩ = some (.int .i64 0) := (blk_cell BK333.out 3).trans rfl; have hcz35_4 : w34.cell? ⟨gb333, 4, none⟩ = some (.slice none 0 0) := (blk_cell BK333.out 4).trans rfl; have hfz35_0 := blk_frozen BK333.out 0; have hfz35_1 := blk_frozen BK333.out 1; have hfz35_2 := blk_frozen BK333.out 2; have hfz35_3 := blk_frozen BK333.out 3; have hfz35_4 := blk_frozen BK333.out 4; obtain ⟨Ao36, co36, eo36⟩ := Kd.R_slice HO330.out; subst eo36))
          go_ret
          exact ⟨by first | rfl | (simp [] <;> rfl) | (simp [*] <;> rfl), by repeat (first | (with_reducible first | exact HB.out | apply below_alloc | apply pw_below_drewN | apply below_drew1 | refine below_set ?_ GE333.out) | exact HB.out)⟩
      · rw [if_neg c4] at H
        have c4b0 : (t324 == 4) = false := beq_eq_false_iff_ne.mpr c4
        have c4b1 : (t324 != 4) = true := bne_iff_ne.mpr c4
        obtain rfl := Option.some.inj H
        go_enter Tryd.func23, Tryd.ntmps23
        go_wp2_with (first | ((with_reducible refine gate_callee (f := 24) rfl ?_); refine goesL_ (some 5) rfl rfl Tryd.func24 (by kernel_rfl) rfl #[.string (⟨#[40, 101, 113, 32, 97, 32, 53, 41]⟩ : ByteArray)] rfl (by (try simp only [List.map_toArray, List.map_cons, List.map_nil]); first | done | rfl | (simp only [List.length_drop, List.length_take]; rfl)) ?_; (with_reducible refine (sexp_Parse.calls (⟨#[40, 101, 113, 32, 97, 32, 53, 41]⟩ : ByteArray) t324 t325 t326 t327 t328 t331 t332 _ ?side1 A1.out).mono ?_); (case side1 => exact hG.below (by repeat (first | (with_reducible first | exact HB.out | apply below_alloc | apply pw_below_drewN | apply below_drew1) | exact HB.out))); rintro e w37 ⟨v329, rfl, ho0, hb⟩; refine ⟨_, rfl, ?_⟩; have n0_ := Aside0.mk (Kd.R_lower ho0 (below_size (by repeat (first | (with_reducible first | exact HB.out | apply below_alloc | apply pw_below_drewN | apply below_drew1) | exact HB.out)))); have n1_ := Aside0.mk (below_step (by repeat (first | (with_reducible first | exact HB.out | apply below_alloc | apply pw_below_drewN | apply below_drew1) | exact HB.out)) hb); clear HB; have HO330 := n0_; have HB := n1_; clear n0_ n1_; (try clear hb); (try clear hb2); (try clear hk); (try clear hi); (try clear ho0)) | ((with_reducible refine gate_dst (N := 1) rfl ?_); (try (refine gate_guard (by rfl) ?_; dsimp only)); refine box_event ?hg (N := 1) ?hd (cs := #[.int .i64 0, .string (⟨#[]⟩ : ByteArray), .int .i64 0, .int .i64 0, .slice none 0 0]) (t := 39) ?hr ?_; (case hd => rfl); (case hg => rfl); (case hr => first | (go_simp; done) | (go_simp; rfl)); intro gb333 hg w38 hbox hb; have n0_ := Aside0.mk (Kd.R_below (Kd.R_elderB (by (with_reducible repeat (first | apply Kd.R_alloc | apply Kd.R_drewN | apply Kd.R_drew)); exact HO330.out) gb333 (Nat.le_of_eq hg.symm)) hb); have n1_ := Aside0.mk (below_step (by repeat (first | (with_reducible first | exact HB.out | apply below_alloc | apply pw_below_drewN | apply below_drew1) | exact HB.out)) hb); have n2_ := Aside0.mk (hbox); have n3_ := Aside0.mk ((by rw [hg]; exact (below_size (by repeat (first | (with_reducible first | exact HB.out | apply below_alloc | apply pw_below_drewN | apply below_drew1) | exact HB.out))) : w.heap.size ≤ gb333)); have n4_ := Aside0.mk ((by rw [hg]; exact (below_size (by repeat (first | (with_reducible first | exact HB.out | apply below_alloc | apply pw_below_drewN | apply below_drew1) | exact HB.out))) : w.heap.size ≤ gb333)); clear HO330; clear HB; have HO330 := n0_; have HB := n1_; have BK333 := n2_; have GW333 := n3_; have GE333 := n4_; clear n0_ n1_ n2_ n3_ n4_; clear hb hbox hg; have hcz39_0 : w38.cell? ⟨gb333, 0, none⟩ = some (.int .i64 0) := (blk_cell BK333.out 0).trans rfl; have hcz39_1 : w38.cell? ⟨gb333, 1, none⟩ = some (.string (⟨#[]⟩ : ByteArray)) := (blk_cell BK333.out 1).trans rfl; have hcz39_2 : w38.cell? ⟨gb333, 2, none⟩ = some (.int .i64 0) := (blk_cell BK333.out 2).trans rfl; have hcz39_3 : w38.cell? ⟨gb333, 3, none⟩ = some (.int .i64 0) := (blk_cell BK333.out 3).trans rfl; have hcz39_4 : w38.cell? ⟨gb333, 4, none⟩ = some (.slice none 0 0) := (blk_cell BK333.out 4).trans rfl; have hfz39_0 := blk_frozen BK333.out 0; have hfz39_1 := blk_frozen BK333.out 1; have hfz39_2 := blk_frozen BK333.out 2; have hfz39_3 := blk_frozen BK333.out 3; have hfz39_4 := blk_frozen BK333.out 4; obtain ⟨Ao40, co40, eo40⟩ := Kd.R_slice HO330.out; subst eo40))
        go_ret
        exact ⟨by first | rfl | (simp [] <;> rfl) | (simp [*] <;> rfl), by repeat (first | (with_reducible first | exact HB.out | apply below_alloc | apply pw_below_drewN | apply below_drew1 | refine below_set ?_ GE333.out) | exact HB.out)⟩
    · rw [if_neg c3] at H
      have c3b0 : (t331 == 8) = false := beq_eq_false_iff_ne.mpr c3
      have c3b1 : (t331 != 8) = true := bne_iff_ne.mpr c3
      obtain rfl := Option.some.inj H
      go_enter Tryd.func23, Tryd.ntmps23
      go_wp2_with (first | ((with_reducible refine gate_callee (f := 24) rfl ?_); refine goesL_ (some 5) rfl rfl Tryd.func24 (by kernel_rfl) rfl #[.string (⟨#[40, 101, 113, 32, 97, 32, 53, 41]⟩ : ByteArray)] rfl (by (try simp only [List.map_toArray, List.map_cons, List.map_nil]); first | done | rfl | (simp only [List.length_drop, List.length_take]; rfl)) ?_; (with_reducible refine (sexp_Parse.calls (⟨#[40, 101, 113, 32, 97, 32, 53, 41]⟩ : ByteArray) t324 t325 t326 t327 t328 t331 t332 _ ?side1 A1.out).mono ?_); (case side1 => exact hG.below (by repeat (first | (with_reducible first | exact HB.out | apply below_alloc | apply pw_below_drewN | apply below_drew1) | exact HB.out))); rintro e w41 ⟨v329, rfl, ho0, hb⟩; refine ⟨_, rfl, ?_⟩; have n0_ := Aside0.mk (Kd.R_lower ho0 (below_size (by repeat (first | (with_reducible first | exact HB.out | apply below_alloc | apply pw_below_drewN | apply below_drew1) | exact HB.out)))); have n1_ := Aside0.mk (below_step (by repeat (first | (with_reducible first | exact HB.out | apply below_alloc | apply pw_below_drewN | apply below_drew1) | exact HB.out)) hb); clear HB; have HO330 := n0_; have HB := n1_; clear n0_ n1_; (try clear hb); (try clear hb2); (try clear hk); (try clear hi); (try clear ho0)) | ((with_reducible refine gate_dst (N := 1) rfl ?_); (try (refine gate_guard (by rfl) ?_; dsimp only)); refine box_event ?hg (N := 1) ?hd (cs := #[.int .i64 0, .string (⟨#[]⟩ : ByteArray), .int .i64 0, .int .i64 0, .slice none 0 0]) (t := 39) ?hr ?_; (case hd => rfl); (case hg => rfl); (case hr => first | (go_simp; done) | (go_simp; rfl)); intro gb333 hg w42 hbox hb; have n0_ := Aside0.mk (Kd.R_below (Kd.R_elderB (by (with_reducible repeat (first | apply Kd.R_alloc | apply Kd.R_drewN | apply Kd.R_drew)); exact HO330.out) gb333 (Nat.le_of_eq hg.symm)) hb); have n1_ := Aside0.mk (below_step (by repeat (first | (with_reducible first | exact HB.out | apply below_alloc | apply pw_below_drewN | apply below_drew1) | exact HB.out)) hb); have n2_ := Aside0.mk (hbox); have n3_ := Aside0.mk ((by rw [hg]; exact (below_size (by repeat (first | (with_reducible first | exact HB.out | apply below_alloc | apply pw_below_drewN | apply below_drew1) | exact HB.out))) : w.heap.size ≤ gb333)); have n4_ := Aside0.mk ((by rw [hg]; exact (below_size (by repeat (first | (with_reducible first | exact HB.out | apply below_alloc | apply pw_below_drewN | apply below_drew1) | exact HB.out))) : w.heap.size ≤ gb333)); clear HO330; clear HB; have HO330 := n0_; have HB := n1_; have BK333 := n2_; have GW333 := n3_; have GE333 := n4_; clear n0_ n1_ n2_ n3_ n4_; clear hb hbox hg; have hcz43_0 : w42.cell? ⟨gb333, 0, none⟩ = some (.int .i64 0) := (blk_cell BK333.out 0).trans rfl; have hcz43_1 : w42.cell? ⟨gb333, 1, none⟩ = some (.string (⟨#[]⟩ : ByteArray)) := (blk_cell BK333.out 1).trans rfl; have hcz43_2 : w42.cell? ⟨gb333, 2, none⟩ = some (.int .i64 0) := (blk_cell BK333.out 2).trans rfl; have hcz43_3 : w42.cell? ⟨gb333, 3, none⟩ = some (.int .i64 0) := (blk_cell BK333.out 3).trans rfl; have hcz43_4 : w42.cell? ⟨gb333, 4, none⟩ = some (.slice none 0 0) := (blk_cell BK333.out 4).trans rfl; have hfz43_0 := blk_frozen BK333.out 0; have hfz43_1 := blk_frozen BK333.out 1; have hfz43_2 := blk_frozen BK333.out 2; have hfz43_3 := blk_frozen BK333.out 3; have hfz43_4 := blk_frozen BK333.out 4; obtain ⟨Ao44, co44, eo44⟩ := Kd.R_slice HO330.out; subst eo44))
      go_ret
      exact ⟨by first | rfl | (simp [] <;> rfl) | (simp [*] <;> rfl), by repeat (first | (with_reducible first | exact HB.out | apply below_alloc | apply pw_below_drewN | apply below_drew1 | refine below_set ?_ GE333.out) | exact HB.out)⟩
  · rw [if_neg c2] at H
    have c2b0 : (t332 == 0) = false := beq_eq_false_iff_ne.mpr c2
    have c2b1 : (t332 != 0) = true := bne_iff_ne.mpr c2
    obtain rfl := Option.some.inj H
    go_enter Tryd.func23, Tryd.ntmps23
    go_wp2_with (first | ((with_reducible refine gate_callee (f := 24) rfl ?_); refine goesL_ (some 5) rfl rfl Tryd.func24 (by kernel_rfl) rfl #[.string (⟨#[40, 101, 113, 32, 97, 32, 53, 41]⟩ : ByteArray)] rfl (by (try simp only [List.map_toArray, List.map_cons, List.map_nil]); first | done | rfl | (simp only [List.length_drop, List.length_take]; rfl)) ?_; (with_reducible refine (sexp_Parse.calls (⟨#[40, 101, 113, 32, 97, 32, 53, 41]⟩ : ByteArray) t324 t325 t326 t327 t328 t331 t332 _ ?side1 A1.out).mono ?_); (case side1 => exact hG.below (by repeat (first | (with_reducible first | exact HB.out | apply below_alloc | apply pw_below_drewN | apply below_drew1) | exact HB.out))); rintro e w45 ⟨v329, rfl, ho0, hb⟩; refine ⟨_, rfl, ?_⟩; have n0_ := Aside0.mk (Kd.R_lower ho0 (below_size (by repeat (first | (with_reducible first | exact HB.out | apply below_alloc | apply pw_below_drewN | apply below_drew1) | exact HB.out)))); have n1_ := Aside0.mk (below_step (by repeat (first | (with_reducible first | exact HB.out | apply below_alloc | apply pw_below_drewN | apply below_drew1) | exact HB.out)) hb); clear HB; have HO330 := n0_; have HB := n1_; clear n0_ n1_; (try clear hb); (try clear hb2); (try clear hk); (try clear hi); (try clear ho0)) | ((with_reducible refine gate_dst (N := 1) rfl ?_); (try (refine gate_guard (by rfl) ?_; dsimp only)); refine box_event ?hg (N := 1) ?hd (cs := #[.int .i64 0, .string (⟨#[]⟩ : ByteArray), .int .i64 0, .int .i64 0, .slice none 0 0]) (t := 39) ?hr ?_; (case hd => rfl); (case hg => rfl); (case hr => first | (go_simp; done) | (go_simp; rfl)); intro gb333 hg w46 hbox hb; have n0_ := Aside0.mk (Kd.R_below (Kd.R_elderB (by (with_reducible repeat (first | apply Kd.R_alloc | apply Kd.R_drewN | apply Kd.R_drew)); exact HO330.out) gb333 (Nat.le_of_eq hg.symm)) hb); have n1_ := Aside0.mk (below_step (by repeat (first | (with_reducible first | exact HB.out | apply below_alloc | apply pw_below_drewN | apply below_drew1) | exact HB.out)) hb); have n2_ := Aside0.mk (hbox); have n3_ := Aside0.mk ((by rw [hg]; exact (below_size (by repeat (first | (with_reducible first | exact HB.out | apply below_alloc | apply pw_below_drewN | apply below_drew1) | exact HB.out))) : w.heap.size ≤ gb333)); have n4_ := Aside0.mk ((by rw [hg]; exact (below_size (by repeat (first | (with_reducible first | exact HB.out | apply below_alloc | apply pw_below_drewN | apply below_drew1) | exact HB.out))) : w.heap.size ≤ gb333)); clear HO330; clear HB; have HO330 := n0_; have HB := n1_; have BK333 := n2_; have GW333 := n3_; have GE333 := n4_; clear n0_ n1_ n2_ n3_ n4_; clear hb hbox hg; have hcz47_0 : w46.cell? ⟨gb333, 0, none⟩ = some (.int .i64 0) := (blk_cell BK333.out 0).trans rfl; have hcz47_1 : w46.cell? ⟨gb333, 1, none⟩ = some (.string (⟨#[]⟩ : ByteArray)) := (blk_cell BK333.out 1).trans rfl; have hcz47_2 : w46.cell? ⟨gb333, 2, none⟩ = some (.int .i64 0) := (blk_cell BK333.out 2).trans rfl; have hcz47_3 : w46.cell? ⟨gb333, 3, none⟩ = some (.int .i64 0) := (blk_cell BK333.out 3).trans rfl; have hcz47_4 : w46.cell? ⟨gb333, 4, none⟩ = some (.slice none 0 0) := (blk_cell BK333.out 4).trans rfl; have hfz47_0 := blk_frozen BK333.out 0; have hfz47_1 := blk_frozen BK333.out 1; have hfz47_2 := blk_frozen BK333.out 2; have hfz47_3 := blk_frozen BK333.out 3; have hfz47_4 := blk_frozen BK333.out 4; obtain ⟨Ao48, co48, eo48⟩ := Kd.R_slice HO330.out; subst eo48))
    go_ret
    exact ⟨by first | rfl | (simp [] <;> rfl) | (simp [*] <;> rfl), by repeat (first | (with_reducible first | exact HB.out | apply below_alloc | apply pw_below_drewN | apply below_drew1 | refine below_set ?_ GE333.out) | exact HB.out)⟩
end Go.Proofs.YtngcojabofkbjaaDoor.P
namespace Go.Proofs.YtngcojabofkbjaaDoor.P
open Go.RowKit Go.Proofs.YtngcojabofkbjaaDoorW.PrintWords Go.Proofs.YtngcojabofkbjaaDoorW.PrintLast Go.Proofs.YtngcojabofkbjaaDoorW.PrintMore
set_option linter.unusedVariables false
set_option linter.unusedSimpArgs false
mutual
def sameB : NodeS → NodeS → Bool
  | ⟨k, t, n, _, l⟩, ⟨k', t', n', _, l'⟩ => if k = k' then (if t.toList = t'.toList then (if n = n' then sameL l l' else false) else false) else false
def sameL : List NodeS → List NodeS → Bool
  | [], [] => true
  | x :: r, y :: s => sameB x y && sameL r s
  | [], _ :: _ => false
  | _ :: _, [] => false
end
theorem sameL_len (l : List NodeS) : ∀ m, l.length ≠ m.length → sameL l m = false := by
  induction l with
  | nil => intro m h; cases m with
    | nil => exact absurd rfl h
    | cons => rfl
  | cons x r ih => intro m h; cases m with
    | nil => rfl
    | cons y s => rw [sameL, ih s (by simpa using h), Bool.and_false]
theorem sameL_step (l m : List NodeS) (k : Nat) (hk : k < l.length) (hm : k < m.length) : sameL (l.drop k) (m.drop k) = (sameB l[k] m[k] && sameL (l.drop (k + 1)) (m.drop (k + 1))) := by
  rw [List.drop_eq_getElem_cons hk, List.drop_eq_getElem_cons hm, sameL]
def SamePost (w : World) (b : Bool) (e : Ending) (w' : World) : Prop := e = .returned (.bool b) ∧ Below w.heap.size w w'
set_option maxRecDepth 100000 in
set_option maxHeartbeats 4000000 in
theorem equal_nodes (l m : List NodeS) (A A2 : Option Addr) (c c2 : Nat) (w : World) (hl : l.length ≤ 140737488351232) (hm : m.length ≤ 140737488351232) (hC : k39.C w A l.length l) (hC2 : k39.C w A2 m.length m) (hc : l.length ≤ c) (hc2 : m.length ≤ c2)
    (ih : ∀ (y : NodeAt w l) (z : NodeAt w m) (W : World), Below w.heap.size w W → Calls Tryd.prog 32 #[.agg y.1.2, .agg z.1.2] W (SamePost W (sameB y.1.1 z.1.1))) :
    Calls Tryd.prog 53 #[.slice A l.length c, .slice A2 m.length c2, .func (.func 32) #[] #[]] w (SamePost w (sameL l m)) := by
  have IH := Aside0.mk ih
  have HC := Aside0.mk hC
  have HC2 := Aside0.mk hC2
  clear ih hC hC2
  by_cases hlen : l.length = m.length
  · have d1 : ((l.length : Int) != (m.length : Int)) = false := by rw [bne_eq_false_iff_eq]; omega
    have HLEN := Aside0.mk hlen
    clear hlen
    go_enter Tryd.func53, Tryd.ntmps53
    go_wp2
    go_loopg [17] l.length (fun n v W => ∃ i : Nat, v = .int .i64 i ∧ Aside0 (sameL (l.drop i) (m.drop i) = sameL l m) ∧ Aside0 (Below w.heap.size w W) ∧ Aside0 (i + n = l.length))
    case atStart => exact ⟨0, rfl, ⟨rfl⟩, ⟨Below.refl _ _⟩, ⟨by omega⟩⟩
    case round =>
      obtain ⟨i, rfl, HS, HB, HN⟩ := hrel
      by_cases hlt : i < l.length
      · have hlt2 : i < m.length := by have := HLEN.out; omega
        have HT := Aside0.mk ((sameL_step l m i hlt hlt2).symm.trans HS.out)
        clear HS
        obtain ⟨y, ad, A4, c4, hy1, hA, hy2, g0, g1, g2, g3, g4⟩ := nodeAt_get HC.out i hlt rfl
        obtain ⟨z, ad2, A42, c42, hz1, hA2, hz2, f0, f1, f2, f3, f4⟩ := nodeAt_get HC2.out i hlt2 rfl
        cases hA
        cases hA2
        have hx0 := (HB.out.cell (World.block_lt_of_cell? w _ g0)).trans g0
        have hx1 := (HB.out.cell (World.block_lt_of_cell? w _ g1)).trans g1
        have hx2 := (HB.out.cell (World.block_lt_of_cell? w _ g2)).trans g2
        have hx3 := (HB.out.cell (World.block_lt_of_cell? w _ g3)).trans g3
        have hx4 := (HB.out.cell (World.block_lt_of_cell? w _ g4)).trans g4
        have hw0 := (HB.out.cell (World.block_lt_of_cell? w _ f0)).trans f0
        have hw1 := (HB.out.cell (World.block_lt_of_cell? w _ f1)).trans f1
        have hw2 := (HB.out.cell (World.block_lt_of_cell? w _ f2)).trans f2
        have hw3 := (HB.out.cell (World.block_lt_of_cell? w _ f3)).trans f3
        have hw4 := (HB.out.cell (World.block_lt_of_cell? w _ f4)).trans f4
        have hv0 := pw_cell_below (below_alloc (Below.refl _ wr) (.cells #[.int .i64 l[i].f0, .string l[i].f1, .int .i64 l[i].f2, .int .i64 l[i].f3, .slice A4 l[i].f4.length c4] 39 (0, 0))) hw0
        have hv1 := pw_cell_below (below_alloc (Below.refl _ wr) (.cells #[.int .i64 l[i].f0, .string l[i].f1, .int .i64 l[i].f2, .int .i64 l[i].f3, .slice A4 l[i].f4.length c4] 39 (0, 0))) hw1
        have hv2 := pw_cell_below (below_alloc (Below.refl _ wr) (.cells #[.int .i64 l[i].f0, .string l[i].f1, .int .i64 l[i].f2, .int .i64 l[i].f3, .slice A4 l[i].f4.length c4] 39 (0, 0))) hw2
        have hv3 := pw_cell_below (below_alloc (Below.refl _ wr) (.cells #[.int .i64 l[i].f0, .string l[i].f1, .int .i64 l[i].f2, .int .i64 l[i].f3, .slice A4 l[i].f4.length c4] 39 (0, 0))) hw3
        have hv4 := pw_cell_below (below_alloc (Below.refl _ wr) (.cells #[.int .i64 l[i].f0, .string l[i].f1, .int .i64 l[i].f2, .int .i64 l[i].f3, .slice A4 l[i].f4.length c4] 39 (0, 0))) hw4
        clear g0 g1 g2 g3 g4 f0 f1 f2 f3 f4 hw0 hw1 hw2 hw3 hw4
        have HIY := Aside0.mk (fun W hW => IH.out y z W hW)
        rw [hy1, hz1, hy2, hz2] at HIY
        clear hy1 hz1 hy2 hz2 y z
        generalize sameB l[i] m[i] = b at *
        cases gk with
        | zero => have := HN.out; omega
        | succ k1 =>
          cases b
          · have hF : Aside0 (false = sameL l m) := ⟨by rw [← HT.out, Bool.false_and]⟩
            clear HT
            go_wp2_with (go_at_call 32; refine (HIY.out _ (below_alloc (below_alloc HB.out _) _)).mono ?_; rintro e W1 ⟨rfl, hB1⟩)
            go_ret
            exact ⟨by rw [← hF.out]; rfl, below_step (below_alloc (below_alloc HB.out _) _) hB1⟩
          · have hT : Aside0 (sameL (l.drop (i + 1)) (m.drop (i + 1)) = sameL l m) := ⟨by rw [← HT.out, Bool.true_and]⟩
            clear HT
            go_wp2_with (go_at_call 32; refine (HIY.out _ (below_alloc (below_alloc HB.out _) _)).mono ?_; rintro e W1 ⟨rfl, hB1⟩)
            go_roundg k1
            case measure => omega
            case rel => exact ⟨i + 1, by simp, hT, ⟨below_step (below_alloc (below_alloc HB.out _) _) hB1⟩, ⟨by have := HN.out; omega⟩⟩
      · have hF : Aside0 (true = sameL l m) := ⟨by rw [← HS.out, List.drop_of_length_le (by omega), List.drop_of_length_le (by have := HLEN.out; omega)]; rfl⟩
        clear HS
        go_wp2
        go_ret
        exact ⟨by rw [← hF.out]; rfl, HB.out⟩
  · have d1 : ((l.length : Int) != (m.length : Int)) = true := by rw [bne_iff_ne]; omega
    have HF := Aside0.mk (sameL_len l m hlen)
    clear hlen
    go_enter Tryd.func53, Tryd.ntmps53
    rw [HF.out]
    go_wp2
    go_ret
    exact ⟨rfl, Below.refl _ _⟩
set_option maxRecDepth 100000 in
set_option maxHeartbeats 4000000 in
theorem same_any : ∀ (N : Nat) (k : Int) (t : ByteArray) (n a : Int) (l : List NodeS) (k' : Int) (t' : ByteArray) (n' a' : Int) (l' : List NodeS) (A A2 : Option Addr) (c c2 : Nat) (w : World), SizeOf.sizeOf (⟨k, t, n, a, l⟩ : NodeS) ≤ N → smallB ⟨k, t, n, a, l⟩ = true → smallB ⟨k', t', n', a', l'⟩ = true →
    k39.C w A l.length l → l.length ≤ c → k39.C w A2 l'.length l' → l'.length ≤ c2 →
    Calls Tryd.prog 32 #[.agg #[.int .i64 k, .string t, .int .i64 n, .int .i64 a, .slice A l.length c], .agg #[.int .i64 k', .string t', .int .i64 n', .int .i64 a', .slice A2 l'.length c2]] w (SamePost w (sameB ⟨k, t, n, a, l⟩ ⟨k', t', n', a', l'⟩)) := by
  intro N
  induction N with
  | zero => intro k t n a l k' t' n' a' l' A A2 c c2 w h; simp [S39.mk.sizeOf_spec] at h
  | succ N ihN =>
    intro k t n a l k' t' n' a' l' A A2 c c2 w hN hs hs' hC hc hC2 hc2
    obtain ⟨s1, s2⟩ := small_open _ hs
    obtain ⟨s3, s4⟩ := small_open _ hs'
    have HQ := fun (W : World) (hB : Below w.heap.size w W) => equal_nodes l l' A A2 c c2 W s1 s3 (Kd.C_below hC hB) (Kd.C_below hC2 hB) hc hc2 (by
      rintro ⟨⟨⟨k1, t1, n1, a1, l1⟩, cs1⟩, hm1, hK1⟩ ⟨⟨⟨k2, t2, n2, a2, l2⟩, cs2⟩, hm2, hK2⟩ W2 hB2
      obtain ⟨A4, c4, e, h1, h2⟩ := node_cells (⟨(⟨k1, t1, n1, a1, l1⟩, cs1), hm1, hK1⟩ : NodeAt W l)
      obtain ⟨A5, c5, e5, h3, h4⟩ := node_cells (⟨(⟨k2, t2, n2, a2, l2⟩, cs2), hm2, hK2⟩ : NodeAt W l')
      have hz := size_in ⟨k, t, n, a, l⟩ ⟨k1, t1, n1, a1, l1⟩ hm1
      dsimp only at e e5 h1 h2 h3 h4 hz ⊢
      rw [e, e5]
      exact ihN k1 t1 n1 a1 l1 k2 t2 n2 a2 l2 A4 A5 c4 c5 W2 (by omega) (s2 _ hm1) (s4 _ hm2) (Kd.C_below h2 hB2) h1 (Kd.C_below h4 hB2) h3)
    have HQ := Aside0.mk HQ
    clear hC hC2 ihN hs hs' hN s2 s4
    have hV : Aside0 (sameB ⟨k, t, n, a, l⟩ ⟨k', t', n', a', l'⟩ = if k = k' then (if t.toList = t'.toList then (if n = n' then sameL l l' else false) else false) else false) := ⟨by rw [sameB]⟩
    have b0 := fun o o2 => Aside0.mk (below_alloc (below_alloc (Below.refl w.heap.size w) o) o2)
    by_cases h1 : k = k'
    · have b1 := beq_lit h1
      by_cases h2 : t.toList = t'.toList
      · have b2 : (t.toList == t'.toList) = true := beq_iff_eq.2 h2
        by_cases h3 : n = n'
        · have b3 := beq_lit h3
          have hF : Aside0 (sameL l l' = sameB ⟨k, t, n, a, l⟩ ⟨k', t', n', a', l'⟩) := ⟨by rw [hV.out, if_pos h1, if_pos h2, if_pos h3]⟩
          clear hV h1 h2 h3
          go_enter Tryd.func32, Tryd.ntmps32
          go_wp2_with (go_at_call 53; refine (HQ.out _ (below_alloc (below_alloc (Below.refl _ _) _) _)).mono ?_; rintro e W1 ⟨rfl, hB1⟩)
          go_ret
          exact ⟨by rw [← hF.out]; rfl, below_step (below_alloc (below_alloc (Below.refl _ _) _) _) hB1⟩
        · have b3 := beq_no h3
          have hF : Aside0 (false = sameB ⟨k, t, n, a, l⟩ ⟨k', t', n', a', l'⟩) := ⟨by rw [hV.out, if_pos h1, if_pos h2, if_neg h3]⟩
          clear hV h1 h2 h3
          go_enter Tryd.func32, Tryd.ntmps32
          go_wp2
          go_ret
          exact ⟨by rw [← hF.out]; rfl, below_alloc (below_alloc (Below.refl _ _) _) _⟩
      · have b2 : (t.toList == t'.toList) = false := beq_eq_false_iff_ne.2 h2
        have hF : Aside0 (false = sameB ⟨k, t, n, a, l⟩ ⟨k', t', n', a', l'⟩) := ⟨by rw [hV.out, if_pos h1, if_neg h2]⟩
        clear hV h1 h2
        go_enter Tryd.func32, Tryd.ntmps32
        go_wp2
        go_ret
        exact ⟨by rw [← hF.out]; rfl, below_alloc (below_alloc (Below.refl _ _) _) _⟩
    · have b1 := beq_no h1
      have hF : Aside0 (false = sameB ⟨k, t, n, a, l⟩ ⟨k', t', n', a', l'⟩) := ⟨by rw [hV.out, if_neg h1]⟩
      clear hV h1
      go_enter Tryd.func32, Tryd.ntmps32
      go_wp2
      go_ret
      exact ⟨by rw [← hF.out]; rfl, below_alloc (below_alloc (Below.refl _ _) _) _⟩
def sexp_Same.f (a0_0 : Int) (a0_1 : ByteArray) (a0_2 : Int) (a0_3 : Int) (l0_4 : List NodeS) (a1_0 : Int) (a1_1 : ByteArray) (a1_2 : Int) (a1_3 : Int) (l1_4 : List NodeS) : Option Bool :=
  if smallB ⟨a0_0, a0_1, a0_2, a0_3, l0_4⟩ = true ∧ smallB ⟨a1_0, a1_1, a1_2, a1_3, l1_4⟩ = true then some (sameB ⟨a0_0, a0_1, a0_2, a0_3, l0_4⟩ ⟨a1_0, a1_1, a1_2, a1_3, l1_4⟩) else none
theorem sexp_Same.calls (a0_0 : Int) (a0_1 : ByteArray) (a0_2 : Int) (a0_3 : Int) (A0_4 : Option Addr) (c0_4 : Nat) (l0_4 : List (S39)) (a1_0 : Int) (a1_1 : ByteArray) (a1_2 : Int) (a1_3 : Int) (A1_4 : Option Addr) (c1_4 : Nat) (l1_4 : List (S39)) (r : Bool) (w : World)
    (hr0_4 : Kd.C k39 w A0_4 l0_4.length l0_4) (hc0_4 : l0_4.length ≤ c0_4) (hr1_4 : Kd.C k39 w A1_4 l1_4.length l1_4) (hc1_4 : l1_4.length ≤ c1_4) (h : sexp_Same.f a0_0 a0_1 a0_2 a0_3 l0_4 a1_0 a1_1 a1_2 a1_3 l1_4 = some r) :
    Calls Tryd.prog 32 #[.agg #[.int .i64 a0_0, .string a0_1, .int .i64 a0_2, .int .i64 a0_3, .slice A0_4 l0_4.length c0_4], .agg #[.int .i64 a1_0, .string a1_1, .int .i64 a1_2, .int .i64 a1_3, .slice A1_4 l1_4.length c1_4]] w fun e w' => e = .returned (.bool r) ∧ Below w.heap.size w w' := by
  unfold sexp_Same.f at h
  split at h
  · rename_i hs
    obtain rfl := Option.some.inj h
    exact same_any _ _ _ _ _ _ _ _ _ _ _ _ _ _ _ _ (Nat.le_refl _) hs.1 hs.2 hr0_4 hc0_4 hr1_4 hc1_4
  · cases h
end Go.Proofs.YtngcojabofkbjaaDoor.P
namespace Go.Proofs.YtngcojabofkbjaaDoor.P
open Go.RowKit Go.Proofs.YtngcojabofkbjaaDoorW.PrintWords Go.Proofs.YtngcojabofkbjaaDoorW.PrintLast Go.Proofs.YtngcojabofkbjaaDoorW.PrintMore
set_option linter.unusedVariables false
set_option linter.unusedSimpArgs false
mutual
def trufflelaw14_SexpList.j0 : Nat → List ByteArray → Bool → Bool → Option (Bool)
  | 0, _, _, _ => none
  | k + 1, x0, x3, x20 => if x20 = true then (some x3) else (trufflelaw14_SexpList.l0 k x0 (⟨#[40]⟩ : ByteArray) 0 4 (⟨#[]⟩ : ByteArray) 0 0 ([] : List (S39)))
def trufflelaw14_SexpList.l0 : Nat → List ByteArray → ByteArray → Int → Int → ByteArray → Int → Int → List (S39) → Option (Bool)
  | 0, _, _, _, _, _, _, _, _ => none
  | k + 1, x0, x4, x6, x493000, x493001, x493002, x493003, x493004 => if x6 < (x0.length : Int) then (if 0 ≤ x6 then ((sexp_Parse.f (rdOf ByteArray.empty x0 x6)).bind fun bt494 => (if bt494.2.2.2.2.2.2 = 0 then (if ((rdOf ByteArray.empty x0 x6).size : Int) > 200 then (some true) else (if x4.size + (rdOf ByteArray.empty x0 x6).size ≤ 9223372036854775807 then (if (x4 ++ (rdOf ByteArray.empty x0 x6)).size + 1 ≤ 9223372036854775807 then (if x493004.length < 2199023255552 then (trufflelaw14_SexpList.l0 k x0 ((x4 ++ (rdOf ByteArray.empty x0 x6)) ++ (⟨#[10]⟩ : ByteArray)) (wrap64 (x6 + 1)) x493000 x493001 x493002 x493003 (x493004 ++ [(⟨bt494.1, bt494.2.1, bt494.2.2.1, bt494.2.2.2.1, bt494.2.2.2.2.1⟩ : S39)])) else (none)) else (none)) else (none))) else (some true))) else (none)) else (if x4.size + 1 ≤ 9223372036854775807 then ((sexp_Parse.f (x4 ++ (⟨#[41]⟩ : ByteArray))).bind fun bt509 => (if bt509.2.2.2.2.2.2 = 0 then (if bt509.2.2.2.2.2.1 = (wrap64 ((x4.size : Int) + 1)) then ((sexp_Same.f bt509.1 bt509.2.1 bt509.2.2.1 bt509.2.2.2.1 bt509.2.2.2.2.1 x493000 x493001 x493002 x493003 x493004).bind fun t519 => (if t519 = true then ((sexp_May.f x493000 x493001 x493002 x493003 x493004).bind fun t520 => (some t520)) else (some false))) else (some false)) else (if bt509.2.2.2.2.2.2 = 2 then ((sexp_May.f x493000 x493001 x493002 x493003 x493004).bind fun t521 => (if t521 = true then (some (decide ((x4.size : Int) > 1000))) else (some true))) else (some false)))) else (none))
end
def trufflelaw14_SexpList.f (k : Nat) (l0 : List ByteArray) : Option (Bool) := (trufflelaw14_awake.f).bind fun t491 => (if t491 = true then (trufflelaw14_SexpList.j0 k l0 t491 (decide ((l0.length : Int) > 20))) else (trufflelaw14_SexpList.j0 k l0 t491 true))
set_option maxHeartbeats 8000000 in
set_option maxRecDepth 100000 in
theorem trufflelaw14_SexpList.calls (k : Nat) (A0 : Option Addr) (c0 : Nat) (l0 : List ByteArray) (w : World) (hG : GInv w) (hr0 : Kd.C Kd.string w A0 l0.length l0) (hc0 : l0.length ≤ c0) (h : trufflelaw14_SexpList.f k l0 = some true) :
    Calls Tryd.prog 13 #[.slice A0 l0.length c0] w fun e w' => e = .returned (.bool true) ∧ Below w.heap.size w w' := by
  have hu39 := Tryd.underlying39
  have HR0 := Aside0.mk hr0
  have HC0 := Aside0.mk hc0
  clear hr0 hc0
  have HB := Aside0.mk (Below.refl w.heap.size w)
  have H : ((trufflelaw14_awake.f).bind fun t491 => (if t491 = true then (trufflelaw14_SexpList.j0 k l0 t491 (decide ((l0.length : Int) > 20))) else (trufflelaw14_SexpList.j0 k l0 t491 true))) = some true := h
  clear h
  replace H := Option.bind_eq_some_iff.mp H
  obtain ⟨t491, A20, H⟩ := H
  replace H : (if t491 = true then (trufflelaw14_SexpList.j0 k l0 t491 (decide ((l0.length : Int) > 20))) else (trufflelaw14_SexpList.j0 k l0 t491 true)) = some true := H
  have A2 := Aside0.mk A20
  clear A20
  have HC3 := Aside0.mk H
  clear H
  go_enter Tryd.func13, Tryd.ntmps13
  go_upto_region 2 with (first | ((with_reducible refine gate_callee (f := 23) rfl ?_); refine goesL_ (some 13) rfl rfl Tryd.func23 (by kernel_rfl) rfl #[] rfl (by (try simp only [List.map_toArray, List.map_cons, List.map_nil]); first | done | rfl | (simp only [List.length_drop, List.length_take]; rfl)) ?_; (with_reducible refine (trufflelaw14_awake.calls  t491 _ ?side1 A2.out).mono ?_); (case side1 => exact hG.below (by repeat (first | (with_reducible first | exact HB.out | apply below_alloc | apply pw_below_drewN | apply below_drew1) | exact HB.out))); rintro e w4 ⟨rfl, hb⟩; refine ⟨_, rfl, ?_⟩; have n0_ := Aside0.mk (below_step (by repeat (first | (with_reducible first | exact HB.out | apply below_alloc | apply pw_below_drewN | apply below_drew1) | exact HB.out)) hb); clear HB; have HB := n0_; clear n0_; (try clear hb); (try clear hb2); (try clear hk); (try clear hi)))
  (try simp only [Act.put, List.setIfInBounds_toArray, List.set_cons_zero, List.set_cons_succ])
  go_cut [20] (fun v20 wc => ∃ (kq : Nat) (x20_2 : Bool), v20 = .bool x20_2 ∧ Aside0 (trufflelaw14_SexpList.j0 kq l0 t491 x20_2 = some true) ∧ Aside0 (kq ≤ k) ∧ Aside0 (Below w.heap.size w wc))
  case first =>
    have H := HC3.out
    clear HC3
    by_cases c5 : t491 = true
    · subst c5
      have H1 : (trufflelaw14_SexpList.j0 k l0 true (decide ((l0.length : Int) > 20))) = some true := by first | (rw [if_pos rfl] at H; exact H) | rfl
      clear H
      have H := H1
      clear H1
      have H' := Aside0.mk H
      clear H
      go_wp2
      go_meet
      case rel => exact ⟨_, (decide ((l0.length : Int) > 20)), (by first | rfl | (simp; done) | (simp [*]; done)), H', ⟨by first | omega | exact Nat.le_refl _⟩, ⟨by repeat (first | (with_reducible first | exact HB.out | apply below_alloc | apply pw_below_drewN | apply below_drew1) | exact HB.out)⟩⟩
    · replace c5 := Bool.eq_false_iff.mpr c5
      subst c5
      have H1 : (trufflelaw14_SexpList.j0 k l0 false true) = some true := by first | (rw [if_neg (show ¬ (false = true) by decide)] at H; exact H) | rfl
      clear H
      have H := H1
      clear H1
      have H' := Aside0.mk H
      clear H
      go_wp2
      go_meet
      case rel => exact ⟨_, (true), (by first | rfl | (simp; done) | (simp [*]; done)), H', ⟨by first | omega | exact Nat.le_refl _⟩, ⟨by repeat (first | (with_reducible first | exact HB.out | apply below_alloc | apply pw_below_drewN | apply below_drew1) | exact HB.out)⟩⟩
  case rest =>
    clear HC3
    try clear c1
    try clear c2
    try clear p2
    try clear c5
    obtain ⟨kq, x20_2, rfl, HA, HJ2, HB⟩ := hcut
    cases kq with
    | zero => exact absurd HA.out (by simp [trufflelaw14_SexpList.j0])
    | succ kj2 =>
      have H := HA.out
      clear HA
      simp only [trufflelaw14_SexpList.j0] at H
      by_cases c6 : x20_2 = true
      · subst c6
        have H1 : (some t491) = some true := by first | (rw [if_pos rfl] at H; exact H) | rfl
        clear H
        have H := H1
        clear H1
        have hv_ := Option.some.inj H
        go_wp2
        go_ret
        exact ⟨by first | rfl | (rw [hv_]; done) | (simp [hv_]; done) | (simp [← hv_]; done) | (simp [] <;> rfl) | (simp [*] <;> rfl), by repeat (first | (with_reducible first | exact HB.out | apply below_alloc | apply pw_below_drewN | apply below_drew1) | exact HB.out)⟩
      · replace c6 := Bool.eq_false_iff.mpr c6
        subst c6
        have H1 : (trufflelaw14_SexpList.l0 kj2 l0 (⟨#[40]⟩ : ByteArray) 0 4 (⟨#[]⟩ : ByteArray) 0 0 ([] : List (S39))) = some true := by first | (rw [if_neg (show ¬ (false = true) by decide)] at H; exact H) | rfl
        clear H
        have H := H1
        clear H1
        have H' := Aside0.mk H
        clear H
        go_wp2_with (first | ((with_reducible refine gate_dst (N := 5) rfl ?_); (try (refine gate_guard (by rfl) ?_; dsimp only)); refine box_event ?hg (N := 5) ?hd (cs := #[.int .i64 0, .string (⟨#[]⟩ : ByteArray), .int .i64 0, .int .i64 0, .slice none 0 0]) (t := 39) ?hr ?_; (case hd => rfl); (case hg => rfl); (case hr => first | (go_simp; done) | (go_simp; rfl)); intro gb492 hg w7 hbox hb; have n0_ := Aside0.mk (below_step (by repeat (first | (with_reducible first | exact HB.out | apply below_alloc | apply pw_below_drewN | apply below_drew1) | exact HB.out)) hb); have n1_ := Aside0.mk (hbox); have n2_ := Aside0.mk ((by rw [hg]; exact (below_size (by repeat (first | (with_reducible first | exact HB.out | apply below_alloc | apply pw_below_drewN | apply below_drew1) | exact HB.out))) : w.heap.size ≤ gb492)); have n3_ := Aside0.mk ((by rw [hg]; exact (below_size (by repeat (first | (with_reducible first | exact HB.out | apply below_alloc | apply pw_below_drewN | apply below_drew1) | exact HB.out))) : w.heap.size ≤ gb492)); clear HB; have HB := n0_; have BK492 := n1_; have GW492 := n2_; have GE492 := n3_; clear n0_ n1_ n2_ n3_; clear hb hbox hg; have hcz8_0 : w7.cell? ⟨gb492, 0, none⟩ = some (.int .i64 0) := (blk_cell BK492.out 0).trans rfl; have hcz8_1 : w7.cell? ⟨gb492, 1, none⟩ = some (.string (⟨#[]⟩ : ByteArray)) := (blk_cell BK492.out 1).trans rfl; have hcz8_2 : w7.cell? ⟨gb492, 2, none⟩ = some (.int .i64 0) := (blk_cell BK492.out 2).trans rfl; have hcz8_3 : w7.cell? ⟨gb492, 3, none⟩ = some (.int .i64 0) := (blk_cell BK492.out 3).trans rfl; have hcz8_4 : w7.cell? ⟨gb492, 4, none⟩ = some (.slice none 0 0) := (blk_cell BK492.out 4).trans rfl; have hfz8_0 := blk_frozen BK492.out 0; have hfz8_1 := blk_frozen BK492.out 1; have hfz8_2 := blk_frozen BK492.out 2; have hfz8_3 := blk_frozen BK492.out 3; have hfz8_4 := blk_frozen BK492.out 4))
        go_loopg [4, 6] kj2 (fun kq v4 v6 w' => ∃ (x4_2 : ByteArray) (x6_2 : Int) (x493004_2 : List (S39)) (u493004 : Value), v4 = .string x4_2 ∧ v6 = .int .i64 x6_2 ∧ Aside0 (trufflelaw14_SexpList.l0 kq l0 x4_2 x6_2 4 (⟨#[]⟩ : ByteArray) 0 0 x493004_2 = some true) ∧ Aside0 (kq ≤ kj2) ∧ Aside0 (Kd.R k39 39 w' w.heap.size (fun k_ => k_ ≠ gb492) u493004 x493004_2) ∧ Aside0 (w'.heap[gb492]? = some (.cells #[.int .i64 4, .string (⟨#[]⟩ : ByteArray), .int .i64 0, .int .i64 0, u493004] 39 (0, 0))) ∧ Aside0 (Below w.heap.size w w'))
        case atStart => exact ⟨((⟨#[40]⟩ : ByteArray)), (0), (([] : List (S39))), (.slice none 0 0), (by first | rfl | (simp; done) | (simp [*]; done)), (by first | rfl | (simp; done) | (simp [*]; done)), H', ⟨Nat.le_refl _⟩, ⟨by first | exact Kd.R_nil _ _ _ _ _ | exact Kd.N_nil _ _ _ _ _ | exact Kd.V_nil _ _ _ _ _ | exact Kd.Q_nil _ _ _ _ _ | exact Kd.S_nil _ _ _ _ _⟩, ⟨by (with_reducible repeat (first | refine blk_drewN ?_ _ | refine blk_drew ?_ | refine blk_alloc ?_ _)); refine blk_put (cs := #[.int .i64 4, .string (⟨#[]⟩ : ByteArray), .int .i64 0, .int .i64 0, .slice none 0 0]) ?_ 4 _ rfl; (with_reducible repeat (first | refine blk_drewN ?_ _ | refine blk_drew ?_ | refine blk_alloc ?_ _)); refine blk_put (cs := #[.int .i64 4, .string (⟨#[]⟩ : ByteArray), .int .i64 0, .int .i64 0, .slice none 0 0]) ?_ 3 _ rfl; (with_reducible repeat (first | refine blk_drewN ?_ _ | refine blk_drew ?_ | refine blk_alloc ?_ _)); refine blk_put (cs := #[.int .i64 4, .string (⟨#[]⟩ : ByteArray), .int .i64 0, .int .i64 0, .slice none 0 0]) ?_ 2 _ rfl; (with_reducible repeat (first | refine blk_drewN ?_ _ | refine blk_drew ?_ | refine blk_alloc ?_ _)); refine blk_put (cs := #[.int .i64 4, .string (⟨#[]⟩ : ByteArray), .int .i64 0, .int .i64 0, .slice none 0 0]) ?_ 1 _ rfl; (with_reducible repeat (first | refine blk_drewN ?_ _ | refine blk_drew ?_ | refine blk_alloc ?_ _)); refine blk_put (cs := #[.int .i64 0, .string (⟨#[]⟩ : ByteArray), .int .i64 0, .int .i64 0, .slice none 0 0]) ?_ 0 _ rfl; (with_reducible repeat (first | refine blk_drewN ?_ _ | refine blk_drew ?_ | refine blk_alloc ?_ _)); exact BK492.out⟩, ⟨by repeat (first | (with_reducible first | exact HB.out | apply below_alloc | apply pw_below_drewN | apply below_drew1 | refine below_set ?_ GE492.out) | exact HB.out)⟩⟩
        case round =>
          clear H'
          try clear c1
          try clear c2
          try clear p2
          try clear c5
          try clear c6
          try clear hcz8_0
          try clear hcz8_1
          try clear hcz8_2
          try clear hcz8_3
          try clear hcz8_4
          try clear hfz8_0
          try clear hfz8_1
          try clear hfz8_2
          try clear hfz8_3
          try clear hfz8_4
          try clear p2
          obtain ⟨x4_2, x6_2, x493004_2, u493004, rfl, rfl, HA, HK2, HO_493004, BK492, HB⟩ := hrel
          cases gk with
          | zero => exact absurd HA.out (by simp [trufflelaw14_SexpList.l0])
          | succ k2 =>
            have H := HA.out
            clear HA
            simp only [trufflelaw14_SexpList.l0] at H
            by_cases c9 : x6_2 < (l0.length : Int)
            · rw [if_pos c9] at H
              have c9b0 : decide (x6_2 < (l0.length : Int)) = true := decide_eq_true c9
              clear c9
              by_cases c10 : 0 ≤ x6_2
              · rw [if_pos c10] at H
                have c10b0 : decide (0 ≤ x6_2) = true := decide_eq_true c10
                clear c10
                replace H := Option.bind_eq_some_iff.mp H
                obtain ⟨⟨t494, t495, t496, t497, t498, t501, t502⟩, A110, H⟩ := H
                replace H : (if t502 = 0 then (if ((rdOf ByteArray.empty l0 x6_2).size : Int) > 200 then (some true) else (if x4_2.size + (rdOf ByteArray.empty l0 x6_2).size ≤ 9223372036854775807 then (if (x4_2 ++ (rdOf ByteArray.empty l0 x6_2)).size + 1 ≤ 9223372036854775807 then (if x493004_2.length < 2199023255552 then (trufflelaw14_SexpList.l0 k2 l0 ((x4_2 ++ (rdOf ByteArray.empty l0 x6_2)) ++ (⟨#[10]⟩ : ByteArray)) (wrap64 (x6_2 + 1)) 4 (⟨#[]⟩ : ByteArray) 0 0 (x493004_2 ++ [(⟨t494, t495, t496, t497, t498⟩ : S39)])) else (none)) else (none)) else (none))) else (some true)) = some true := H
                have A11 := Aside0.mk A110
                clear A110
                by_cases c12 : t502 = 0
                · rw [if_pos c12] at H
                  have c12b0 : (t502 == 0) = true := beq_iff_eq.mpr c12
                  have c12b1 : (t502 != 0) = false := bne_eq_false_iff_eq.mpr c12
                  clear c12
                  by_cases c13 : ((rdOf ByteArray.empty l0 x6_2).size : Int) > 200
                  · rw [if_pos c13] at H
                    have c13b0 : decide (200 < ((rdOf ByteArray.empty l0 x6_2).size : Int)) = true := decide_eq_true c13
                    have c13b1 : decide (200 < (rdOf ByteArray.empty l0 x6_2).size) = true := decide_eq_true (by omega)
                    clear c13
                    clear H
                    have p493 : 0 ≤ (x6_2 : Int) := of_decide_eq_true (by first | (with_reducible assumption) | assumption)
                    have q493 : x6_2 < (l0.length : Int) := of_decide_eq_true (by first | (with_reducible assumption) | assumption)
                    obtain ⟨ad493, e493, hx493_0⟩ := Kd.at_string HR0.out x6_2 p493 q493
                    cases e493
                    replace hx493_0 := (HB.out.cell (World.block_lt_of_cell? w _ hx493_0)).trans hx493_0
                    replace p493 := eq_true p493
                    replace q493 := eq_true q493
                    go_wp2_with (first | ((with_reducible refine gate_callee (f := 24) rfl ?_); refine goesL_ (some 34) rfl rfl Tryd.func24 (by kernel_rfl) rfl #[.string (rdOf ByteArray.empty l0 x6_2)] rfl (by (try simp only [List.map_toArray, List.map_cons, List.map_nil]); first | done | rfl | (simp only [List.length_drop, List.length_take]; rfl)) ?_; (with_reducible refine (sexp_Parse.calls (rdOf ByteArray.empty l0 x6_2) t494 t495 t496 t497 t498 t501 t502 _ ?side1 A11.out).mono ?_); (case side1 => exact hG.below (by repeat (first | (with_reducible first | exact HB.out | apply below_alloc | apply pw_below_drewN | apply below_drew1 | refine below_set ?_ GE492.out) | exact HB.out))); rintro e w14 ⟨v499, rfl, ho0, hb⟩; refine ⟨_, rfl, ?_⟩; have n0_ := Aside0.mk (Kd.R_elder' (by (with_reducible repeat (first | apply Kd.R_alloc | apply Kd.R_drewN | apply Kd.R_drew)); exact HO_493004.out) (Kd.R_base ho0) hb); have n1_ := Aside0.mk (Kd.R_lower (Kd.R_newB (Kd.R_new' ho0 (Kd.R_lt (by (with_reducible repeat (first | apply Kd.R_alloc | apply Kd.R_drewN | apply Kd.R_drew)); exact HO_493004.out))) (g := gb492) (o := .cells #[.int .i64 4, .string (⟨#[]⟩ : ByteArray), .int .i64 0, .int .i64 0, u493004] 39 (0, 0)) (by (with_reducible repeat (first | refine blk_drewN ?_ _ | refine blk_drew ?_ | refine blk_alloc ?_ _)); exact BK492.out)) (below_size (by repeat (first | (with_reducible first | exact HB.out | apply below_alloc | apply pw_below_drewN | apply below_drew1 | refine below_set ?_ GE492.out) | exact HB.out)))); have n2_ := Aside0.mk (blk_below (g := gb492) (o := .cells #[.int .i64 4, .string (⟨#[]⟩ : ByteArray), .int .i64 0, .int .i64 0, u493004] 39 (0, 0)) (by (with_reducible repeat (first | refine blk_drewN ?_ _ | refine blk_drew ?_ | refine blk_alloc ?_ _)); exact BK492.out) hb); have n3_ := Aside0.mk (below_step (by repeat (first | (with_reducible first | exact HB.out | apply below_alloc | apply pw_below_drewN | apply below_drew1 | refine below_set ?_ GE492.out) | exact HB.out)) hb); clear HO_493004; clear BK492; clear HB; have HO_493004 := n0_; have HO500 := n1_; have BK492 := n2_; have HB := n3_; clear n0_ n1_ n2_ n3_; (try clear hb); (try clear hb2); (try clear hk); (try clear hi); (try clear ho0)) | ((with_reducible refine gate_dst (N := 7) rfl ?_); (try (refine gate_guard (by rfl) ?_; dsimp only)); refine box_event ?hg (N := 7) ?hd (cs := #[.int .i64 0, .string (⟨#[]⟩ : ByteArray), .int .i64 0, .int .i64 0, .slice none 0 0]) (t := 39) ?hr ?_; (case hd => rfl); (case hg => rfl); (case hr => first | (go_simp; done) | (go_simp; rfl)); intro gb503 hg w15 hbox hb; have n0_ := Aside0.mk (Kd.R_below (Kd.R_elderB (by (with_reducible repeat (first | apply Kd.R_alloc | apply Kd.R_drewN | apply Kd.R_drew)); exact HO_493004.out) gb503 (Nat.le_of_eq hg.symm)) hb); have n1_ := Aside0.mk (Kd.R_below (Kd.R_elderB (by (with_reducible repeat (first | apply Kd.R_alloc | apply Kd.R_drewN | apply Kd.R_drew)); exact HO500.out) gb503 (Nat.le_of_eq hg.symm)) hb); have n2_ := Aside0.mk (blk_below (g := gb492) (o := .cells #[.int .i64 4, .string (⟨#[]⟩ : ByteArray), .int .i64 0, .int .i64 0, u493004] 39 (0, 0)) (by (with_reducible repeat (first | refine blk_drewN ?_ _ | refine blk_drew ?_ | refine blk_alloc ?_ _)); exact BK492.out) hb); have n3_ := Aside0.mk (below_step (by repeat (first | (with_reducible first | exact HB.out | apply below_alloc | apply pw_below_drewN | apply below_drew1 | refine below_set ?_ GE492.out) | exact HB.out)) hb); have n4_ := Aside0.mk (hbox); have n5_ := Aside0.mk ((by rw [hg]; exact (below_size (by repeat (first | (with_reducible first | exact HB.out | apply below_alloc | apply pw_below_drewN | apply below_drew1 | refine below_set ?_ GE492.out) | exact HB.out))) : w.heap.size ≤ gb503)); have n6_ := Aside0.mk ((by rw [hg]; exact (below_size (by repeat (first | (with_reducible first | exact HB.out | apply below_alloc | apply pw_below_drewN | apply below_drew1 | refine below_set ?_ GE492.out) | exact HB.out))) : w.heap.size ≤ gb503)); have n7_ := Aside0.mk ((by rw [hg]; exact Nat.ne_of_lt (blk_lt (g := gb492) (o := .cells #[.int .i64 4, .string (⟨#[]⟩ : ByteArray), .int .i64 0, .int .i64 0, u493004] 39 (0, 0)) (by (with_reducible repeat (first | refine blk_drewN ?_ _ | refine blk_drew ?_ | refine blk_alloc ?_ _)); exact BK492.out)) : gb492 ≠ gb503)); have n8_ := Aside0.mk ((by rw [hg]; exact Nat.ne_of_gt (blk_lt (g := gb492) (o := .cells #[.int .i64 4, .string (⟨#[]⟩ : ByteArray), .int .i64 0, .int .i64 0, u493004] 39 (0, 0)) (by (with_reducible repeat (first | refine blk_drewN ?_ _ | refine blk_drew ?_ | refine blk_alloc ?_ _)); exact BK492.out)) : gb503 ≠ gb492)); clear HO_493004; clear HO500; clear BK492; clear HB; have HO_493004 := n0_; have HO500 := n1_; have BK492 := n2_; have HB := n3_; have BK503 := n4_; have GW503 := n5_; have GE503 := n6_; have NB492_503 := n7_; have NB503_492 := n8_; clear n0_ n1_ n2_ n3_ n4_ n5_ n6_ n7_ n8_; clear hb hbox hg; have hnb16 := NB503_492.out; have hnc16 := NB492_503.out; have hcz17_0 : w15.cell? ⟨gb503, 0, none⟩ = some (.int .i64 0) := (blk_cell BK503.out 0).trans rfl; have hcz17_1 : w15.cell? ⟨gb503, 1, none⟩ = some (.string (⟨#[]⟩ : ByteArray)) := (blk_cell BK503.out 1).trans rfl; have hcz17_2 : w15.cell? ⟨gb503, 2, none⟩ = some (.int .i64 0) := (blk_cell BK503.out 2).trans rfl; have hcz17_3 : w15.cell? ⟨gb503, 3, none⟩ = some (.int .i64 0) := (blk_cell BK503.out 3).trans rfl; have hcz17_4 : w15.cell? ⟨gb503, 4, none⟩ = some (.slice none 0 0) := (blk_cell BK503.out 4).trans rfl; have hfz17_0 := blk_frozen BK503.out 0; have hfz17_1 := blk_frozen BK503.out 1; have hfz17_2 := blk_frozen BK503.out 2; have hfz17_3 := blk_frozen BK503.out 3; have hfz17_4 := blk_frozen BK503.out 4; obtain ⟨Ao18, co18, eo18⟩ := Kd.R_slice HO500.out; subst eo18; have p504 : 0 ≤ (x6_2 : Int) := of_decide_eq_true (by first | (with_reducible assumption) | assumption); have q504 : x6_2 < (l0.length : Int) := of_decide_eq_true (by first | (with_reducible assumption) | assumption); obtain ⟨ad504, e504, hx504_0⟩ := Kd.at_string HR0.out x6_2 p504 q504; obtain rfl : ad493 = ad504 := (by injection e504); have hn504_0 : ad493.block ≠ gb503 := Nat.ne_of_lt (Nat.lt_of_lt_of_le (by have := World.block_lt_of_cell? _ _ hx504_0; first | rwa [add_block] at this | exact this) GW503.out); have hn504_1 : ad493.block ≠ gb503 := Nat.ne_of_lt (Nat.lt_of_lt_of_le (by have := World.block_lt_of_cell? _ _ hx504_0; first | rwa [add_block] at this | exact this) GW503.out); have hn504_2 : ad493.block ≠ gb503 := Nat.ne_of_lt (Nat.lt_of_lt_of_le (by have := World.block_lt_of_cell? _ _ hx504_0; first | rwa [add_block] at this | exact this) GW503.out); have hn504_3 : ad493.block ≠ gb503 := Nat.ne_of_lt (Nat.lt_of_lt_of_le (by have := World.block_lt_of_cell? _ _ hx504_0; first | rwa [add_block] at this | exact this) GW503.out); have hn504_4 : ad493.block ≠ gb503 := Nat.ne_of_lt (Nat.lt_of_lt_of_le (by have := World.block_lt_of_cell? _ _ hx504_0; first | rwa [add_block] at this | exact this) GW503.out); replace hx504_0 := (HB.out.cell (World.block_lt_of_cell? w _ hx504_0)).trans hx504_0; replace hx504_0 := (cell_far (p := ⟨gb503, 0, none⟩) (by first | (rw [add_block]; exact hn504_0) | (show (Addr.add _ _).block ≠ _; rw [add_block]; exact hn504_0) | exact hn504_0) (.int .i64 t494)).trans hx504_0; replace hx504_0 := (cell_far (p := ⟨gb503, 1, none⟩) (by first | (rw [add_block]; exact hn504_1) | (show (Addr.add _ _).block ≠ _; rw [add_block]; exact hn504_1) | exact hn504_1) (.string t495)).trans hx504_0; replace hx504_0 := (cell_far (p := ⟨gb503, 2, none⟩) (by first | (rw [add_block]; exact hn504_2) | (show (Addr.add _ _).block ≠ _; rw [add_block]; exact hn504_2) | exact hn504_2) (.int .i64 t496)).trans hx504_0; replace hx504_0 := (cell_far (p := ⟨gb503, 3, none⟩) (by first | (rw [add_block]; exact hn504_3) | (show (Addr.add _ _).block ≠ _; rw [add_block]; exact hn504_3) | exact hn504_3) (.int .i64 t497)).trans hx504_0; replace hx504_0 := (cell_far (p := ⟨gb503, 4, none⟩) (by first | (rw [add_block]; exact hn504_4) | (show (Addr.add _ _).block ≠ _; rw [add_block]; exact hn504_4) | exact hn504_4) (.slice Ao18 t498.length co18)).trans hx504_0; clear hn504_0; clear hn504_1; clear hn504_2; clear hn504_3; clear hn504_4; replace p504 := eq_true p504; replace q504 := eq_true q504))
                    go_ret
                    exact ⟨by first | rfl | (simp [] <;> rfl) | (simp [*] <;> rfl), by repeat (first | (with_reducible first | exact HB.out | apply below_alloc | apply pw_below_drewN | apply below_drew1 | refine below_set ?_ GE492.out | refine below_set ?_ GE503.out) | exact HB.out)⟩
                  · rw [if_neg c13] at H
                    have c13b0 : decide (200 < ((rdOf ByteArray.empty l0 x6_2).size : Int)) = false := decide_eq_false c13
                    have c13b1 : decide (200 < (rdOf ByteArray.empty l0 x6_2).size) = false := decide_eq_false (by omega)
                    clear c13
                    by_cases c19 : x4_2.size + (rdOf ByteArray.empty l0 x6_2).size ≤ 9223372036854775807
                    · rw [if_pos c19] at H
                      have c19b0 := eq_true c19
                      have c19b1 : decide (x4_2.size + (rdOf ByteArray.empty l0 x6_2).size ≤ 9223372036854775807) = true := decide_eq_true c19
                      try have c19b2 : (9223372036854775807 < x4_2.size + (rdOf ByteArray.empty l0 x6_2).size) = False := eq_false (Nat.not_lt.2 c19)
                      by_cases c20 : (x4_2 ++ (rdOf ByteArray.empty l0 x6_2)).size + 1 ≤ 9223372036854775807
                      · rw [if_pos c20] at H
                        have c20b0 := eq_true c20
                        have c20b1 : decide ((x4_2 ++ (rdOf ByteArray.empty l0 x6_2)).size + 1 ≤ 9223372036854775807) = true := decide_eq_true c20
                        try have c20b2 : (9223372036854775807 < (x4_2 ++ (rdOf ByteArray.empty l0 x6_2)).size + 1) = False := eq_false (Nat.not_lt.2 c20)
                        try have c20b3 : (9223372036854775807 < x4_2.size + (rdOf ByteArray.empty l0 x6_2).size + 1) = False := eq_false (by have e_ : ∀ a b : ByteArray, (a ++ b).size = a.size + b.size := fun a b => ByteArray.size_append; have h_ := c20; simp only [e_] at h_; exact Nat.not_lt.2 h_)
                        by_cases c21 : x493004_2.length < 2199023255552
                        · rw [if_pos c21] at H
                          have LMc21 := Aside0.mk c21
                          clear c21
                          obtain ⟨y506, hy506⟩ : ∃ y_ : List (S39), y_ = (x493004_2 ++ [(⟨t494, t495, t496, t497, t498⟩ : S39)]) := ⟨_, rfl⟩
                          replace H : (trufflelaw14_SexpList.l0 k2 l0 ((x4_2 ++ (rdOf ByteArray.empty l0 x6_2)) ++ (⟨#[10]⟩ : ByteArray)) (wrap64 (x6_2 + 1)) 4 (⟨#[]⟩ : ByteArray) 0 0 y506) = some true := by first | (rw [hy506]; with_reducible exact H) | (have H2_ := (Option.bind_some _ _).symm.trans H; rw [hy506]; with_reducible exact H2_) | (have H2_ := (Option.bind_some _ _).symm.trans H; with_reducible exact H2_) | with_reducible exact H | (rw [hy506]; exact H) | exact H
                          have Ny506 := Aside0.mk hy506
                          clear hy506
                          have H' := Aside0.mk H
                          clear H
                          have p493 : 0 ≤ (x6_2 : Int) := of_decide_eq_true (by first | (with_reducible assumption) | assumption)
                          have q493 : x6_2 < (l0.length : Int) := of_decide_eq_true (by first | (with_reducible assumption) | assumption)
                          obtain ⟨ad493, e493, hx493_0⟩ := Kd.at_string HR0.out x6_2 p493 q493
                          cases e493
                          replace hx493_0 := (HB.out.cell (World.block_lt_of_cell? w _ hx493_0)).trans hx493_0
                          replace p493 := eq_true p493
                          replace q493 := eq_true q493
                          go_wp2_with (first | ((with_reducible refine gate_callee (f := 24) rfl ?_); refine goesL_ (some 34) rfl rfl Tryd.func24 (by kernel_rfl) rfl #[.string (rdOf ByteArray.empty l0 x6_2)] rfl (by (try simp only [List.map_toArray, List.map_cons, List.map_nil]); first | done | rfl | (simp only [List.length_drop, List.length_take]; rfl)) ?_; (with_reducible refine (sexp_Parse.calls (rdOf ByteArray.empty l0 x6_2) t494 t495 t496 t497 t498 t501 t502 _ ?side1 A11.out).mono ?_); (case side1 => exact hG.below (by repeat (first | (with_reducible first | exact HB.out | apply below_alloc | apply pw_below_drewN | apply below_drew1 | refine below_set ?_ GE492.out) | exact HB.out))); rintro e w22 ⟨v499, rfl, ho0, hb⟩; refine ⟨_, rfl, ?_⟩; have n0_ := Aside0.mk (Kd.R_elder' (by (with_reducible repeat (first | apply Kd.R_alloc | apply Kd.R_drewN | apply Kd.R_drew)); exact HO_493004.out) (Kd.R_base ho0) hb); have n1_ := Aside0.mk (Kd.R_lower (Kd.R_newB (Kd.R_new' ho0 (Kd.R_lt (by (with_reducible repeat (first | apply Kd.R_alloc | apply Kd.R_drewN | apply Kd.R_drew)); exact HO_493004.out))) (g := gb492) (o := .cells #[.int .i64 4, .string (⟨#[]⟩ : ByteArray), .int .i64 0, .int .i64 0, u493004] 39 (0, 0)) (by (with_reducible repeat (first | refine blk_drewN ?_ _ | refine blk_drew ?_ | refine blk_alloc ?_ _)); exact BK492.out)) (below_size (by repeat (first | (with_reducible first | exact HB.out | apply below_alloc | apply pw_below_drewN | apply below_drew1 | refine below_set ?_ GE492.out) | exact HB.out)))); have n2_ := Aside0.mk (blk_below (g := gb492) (o := .cells #[.int .i64 4, .string (⟨#[]⟩ : ByteArray), .int .i64 0, .int .i64 0, u493004] 39 (0, 0)) (by (with_reducible repeat (first | refine blk_drewN ?_ _ | refine blk_drew ?_ | refine blk_alloc ?_ _)); exact BK492.out) hb); have n3_ := Aside0.mk (below_step (by repeat (first | (with_reducible first | exact HB.out | apply below_alloc | apply pw_below_drewN | apply below_drew1 | refine below_set ?_ GE492.out) | exact HB.out)) hb); clear HO_493004; clear BK492; clear HB; have HO_493004 := n0_; have HO500 := n1_; have BK492 := n2_; have HB := n3_; clear n0_ n1_ n2_ n3_; (try clear hb); (try clear hb2); (try clear hk); (try clear hi); (try clear ho0)) | ((with_reducible refine gate_dst (N := 7) rfl ?_); (try (refine gate_guard (by rfl) ?_; dsimp only)); refine box_event ?hg (N := 7) ?hd (cs := #[.int .i64 0, .string (⟨#[]⟩ : ByteArray), .int .i64 0, .int .i64 0, .slice none 0 0]) (t := 39) ?hr ?_; (case hd => rfl); (case hg => rfl); (case hr => first | (go_simp; done) | (go_simp; rfl)); intro gb503 hg w23 hbox hb; have n0_ := Aside0.mk (Kd.R_below (Kd.R_elderB (by (with_reducible repeat (first | apply Kd.R_alloc | apply Kd.R_drewN | apply Kd.R_drew)); exact HO_493004.out) gb503 (Nat.le_of_eq hg.symm)) hb); have n1_ := Aside0.mk (Kd.R_below (Kd.R_elderB (by (with_reducible repeat (first | apply Kd.R_alloc | apply Kd.R_drewN | apply Kd.R_drew)); exact HO500.out) gb503 (Nat.le_of_eq hg.symm)) hb); have n2_ := Aside0.mk (blk_below (g := gb492) (o := .cells #[.int .i64 4, .string (⟨#[]⟩ : ByteArray), .int .i64 0, .int .i64 0, u493004] 39 (0, 0)) (by (with_reducible repeat (first | refine blk_drewN ?_ _ | refine blk_drew ?_ | refine blk_alloc ?_ _)); exact BK492.out) hb); have n3_ := Aside0.mk (below_step (by repeat (first | (with_reducible first | exact HB.out | apply below_alloc | apply pw_below_drewN | apply below_drew1 | refine below_set ?_ GE492.out) | exact HB.out)) hb); have n4_ := Aside0.mk (hbox); have n5_ := Aside0.mk ((by rw [hg]; exact (below_size (by repeat (first | (with_reducible first | exact HB.out | apply below_alloc | apply pw_below_drewN | apply below_drew1 | refine below_set ?_ GE492.out) | exact HB.out))) : w.heap.size ≤ gb503)); have n6_ := Aside0.mk ((by rw [hg]; exact (below_size (by repeat (first | (with_reducible first | exact HB.out | apply below_alloc | apply pw_below_drewN | apply below_drew1 | refine below_set ?_ GE492.out) | exact HB.out))) : w.heap.size ≤ gb503)); have n7_ := Aside0.mk ((by rw [hg]; exact Nat.ne_of_lt (blk_lt (g := gb492) (o := .cells #[.int .i64 4, .string (⟨#[]⟩ : ByteArray), .int .i64 0, .int .i64 0, u493004] 39 (0, 0)) (by (with_reducible repeat (first | refine blk_drewN ?_ _ | refine blk_drew ?_ | refine blk_alloc ?_ _)); exact BK492.out)) : gb492 ≠ gb503)); have n8_ := Aside0.mk ((by rw [hg]; exact Nat.ne_of_gt (blk_lt (g := gb492) (o := .cells #[.int .i64 4, .string (⟨#[]⟩ : ByteArray), .int .i64 0, .int .i64 0, u493004] 39 (0, 0)) (by (with_reducible repeat (first | refine blk_drewN ?_ _ | refine blk_drew ?_ | refine blk_alloc ?_ _)); exact BK492.out)) : gb503 ≠ gb492)); clear HO_493004; clear HO500; clear BK492; clear HB; have HO_493004 := n0_; have HO500 := n1_; have BK492 := n2_; have HB := n3_; have BK503 := n4_; have GW503 := n5_; have GE503 := n6_; have NB492_503 := n7_; have NB503_492 := n8_; clear n0_ n1_ n2_ n3_ n4_ n5_ n6_ n7_ n8_; clear hb hbox hg; have hnb24 := NB503_492.out; have hnc24 := NB492_503.out; have hcz25_0 : w23.cell? ⟨gb503, 0, none⟩ = some (.int .i64 0) := (blk_cell BK503.out 0).trans rfl; have hcz25_1 : w23.cell? ⟨gb503, 1, none⟩ = some (.string (⟨#[]⟩ : ByteArray)) := (blk_cell BK503.out 1).trans rfl; have hcz25_2 : w23.cell? ⟨gb503, 2, none⟩ = some (.int .i64 0) := (blk_cell BK503.out 2).trans rfl; have hcz25_3 : w23.cell? ⟨gb503, 3, none⟩ = some (.int .i64 0) := (blk_cell BK503.out 3).trans rfl; have hcz25_4 : w23.cell? ⟨gb503, 4, none⟩ = some (.slice none 0 0) := (blk_cell BK503.out 4).trans rfl; have hfz25_0 := blk_frozen BK503.out 0; have hfz25_1 := blk_frozen BK503.out 1; have hfz25_2 := blk_frozen BK503.out 2; have hfz25_3 := blk_frozen BK503.out 3; have hfz25_4 := blk_frozen BK503.out 4; obtain ⟨Ao26, co26, eo26⟩ := Kd.R_slice HO500.out; subst eo26) | ((with_reducible refine gate_store (t := 39) (p := 7) rfl ?_); refine store_event (t := 39) (p := 7) (v := ?vo_w27) (w1 := (((((w23.setCell ⟨gb503, 0, none⟩ (.int .i64 t494)).setCell ⟨gb503, 1, none⟩ (.string t495)).setCell ⟨gb503, 2, none⟩ (.int .i64 t496)).setCell ⟨gb503, 3, none⟩ (.int .i64 t497)).setCell ⟨gb503, 4, none⟩ (.slice Ao26 t498.length co26))) ?hg ?ho ?hn ?hr ?_; (case ho => rfl); (case hg => rfl); (case hn => rfl); (case hr => first | (go_simp; done) | (go_simp; rfl)); intro w27 hw; have n0_ : Aside0 (Kd.R k39 39 w27 w.heap.size (fun k_ => some k_ ≠ (.slice Ao26 t498.length co26 : Value).ownBlock ∧ k_ ≠ gb492 ∧ k_ ≠ gb503) u493004 x493004_2) := ⟨(by rw [hw]; exact (by (with_reducible repeat (first | apply Kd.R_alloc | apply Kd.R_drewN | apply Kd.R_drew)); exact Kd.R_mono (Kd.R_far (p := ⟨gb503, 4, none⟩) (Kd.R_far (p := ⟨gb503, 3, none⟩) (Kd.R_far (p := ⟨gb503, 2, none⟩) (Kd.R_far (p := ⟨gb503, 1, none⟩) (Kd.R_far (p := ⟨gb503, 0, none⟩) (Kd.R_mono HO_493004.out (fun k_ hk => (⟨hk, hk.2⟩ : _ ∧ k_ ≠ gb503))) (fun _ hk => hk.2) (.int .i64 t494)) (fun _ hk => hk.2) (.string t495)) (fun _ hk => hk.2) (.int .i64 t496)) (fun _ hk => hk.2) (.int .i64 t497)) (fun _ hk => hk.2) (.slice Ao26 t498.length co26)) (fun _ hk => ⟨hk.1.1.2, ⟨hk.1.1.1, hk.1.2⟩⟩)))⟩; have n1_ : Aside0 (Kd.R k39 39 w27 w.heap.size (fun k_ => some k_ ≠ (u493004 : Value).ownBlock ∧ k_ ≠ gb492 ∧ k_ ≠ gb503) (.slice Ao26 t498.length co26) t498) := ⟨(by rw [hw]; exact (by (with_reducible repeat (first | apply Kd.R_alloc | apply Kd.R_drewN | apply Kd.R_drew)); exact Kd.R_mono (Kd.R_far (p := ⟨gb503, 4, none⟩) (Kd.R_far (p := ⟨gb503, 3, none⟩) (Kd.R_far (p := ⟨gb503, 2, none⟩) (Kd.R_far (p := ⟨gb503, 1, none⟩) (Kd.R_far (p := ⟨gb503, 0, none⟩) (Kd.R_mono HO500.out (fun k_ hk => (⟨hk, hk.2⟩ : _ ∧ k_ ≠ gb503))) (fun _ hk => hk.2) (.int .i64 t494)) (fun _ hk => hk.2) (.string t495)) (fun _ hk => hk.2) (.int .i64 t496)) (fun _ hk => hk.2) (.int .i64 t497)) (fun _ hk => hk.2) (.slice Ao26 t498.length co26)) (fun _ hk => ⟨hk.1.1.1.2, ⟨hk.1.1.2, hk.1.2⟩⟩)))⟩; have n2_ : Aside0 (w27.heap[gb492]? = some (.cells #[.int .i64 4, .string (⟨#[]⟩ : ByteArray), .int .i64 0, .int .i64 0, u493004] 39 (0, 0))) := ⟨(by rw [hw]; exact (by (with_reducible repeat (first | refine blk_drewN ?_ _ | refine blk_drew ?_ | refine blk_alloc ?_ _)); refine blk_far ?_ NB492_503.out _; (with_reducible repeat (first | refine blk_drewN ?_ _ | refine blk_drew ?_ | refine blk_alloc ?_ _)); refine blk_far ?_ NB492_503.out _; (with_reducible repeat (first | refine blk_drewN ?_ _ | refine blk_drew ?_ | refine blk_alloc ?_ _)); refine blk_far ?_ NB492_503.out _; (with_reducible repeat (first | refine blk_drewN ?_ _ | refine blk_drew ?_ | refine blk_alloc ?_ _)); refine blk_far ?_ NB492_503.out _; (with_reducible repeat (first | refine blk_drewN ?_ _ | refine blk_drew ?_ | refine blk_alloc ?_ _)); refine blk_far ?_ NB492_503.out _; (with_reducible repeat (first | refine blk_drewN ?_ _ | refine blk_drew ?_ | refine blk_alloc ?_ _)); exact BK492.out))⟩; have n3_ : Aside0 (w27.heap[gb503]? = some (.cells #[.int .i64 t494, .string t495, .int .i64 t496, .int .i64 t497, .slice Ao26 t498.length co26] 39 (0, 0))) := ⟨(by rw [hw]; exact (by (with_reducible repeat (first | refine blk_drewN ?_ _ | refine blk_drew ?_ | refine blk_alloc ?_ _)); refine blk_put (cs := #[.int .i64 t494, .string t495, .int .i64 t496, .int .i64 t497, .slice none 0 0]) ?_ 4 _ rfl; (with_reducible repeat (first | refine blk_drewN ?_ _ | refine blk_drew ?_ | refine blk_alloc ?_ _)); refine blk_put (cs := #[.int .i64 t494, .string t495, .int .i64 t496, .int .i64 0, .slice none 0 0]) ?_ 3 _ rfl; (with_reducible repeat (first | refine blk_drewN ?_ _ | refine blk_drew ?_ | refine blk_alloc ?_ _)); refine blk_put (cs := #[.int .i64 t494, .string t495, .int .i64 0, .int .i64 0, .slice none 0 0]) ?_ 2 _ rfl; (with_reducible repeat (first | refine blk_drewN ?_ _ | refine blk_drew ?_ | refine blk_alloc ?_ _)); refine blk_put (cs := #[.int .i64 t494, .string (⟨#[]⟩ : ByteArray), .int .i64 0, .int .i64 0, .slice none 0 0]) ?_ 1 _ rfl; (with_reducible repeat (first | refine blk_drewN ?_ _ | refine blk_drew ?_ | refine blk_alloc ?_ _)); refine blk_put (cs := #[.int .i64 0, .string (⟨#[]⟩ : ByteArray), .int .i64 0, .int .i64 0, .slice none 0 0]) ?_ 0 _ rfl; (with_reducible repeat (first | refine blk_drewN ?_ _ | refine blk_drew ?_ | refine blk_alloc ?_ _)); exact BK503.out))⟩; have n4_ : Aside0 (Below w.heap.size w w27) := ⟨(by rw [hw]; exact (by repeat (first | (with_reducible first | exact HB.out | apply below_alloc | apply pw_below_drewN | apply below_drew1 | refine below_set ?_ GE492.out | refine below_set ?_ GE503.out) | exact HB.out)))⟩; clear hw; clear HO_493004; clear HO500; clear BK492; clear BK503; clear HB; have HO_493004 := n0_; have HO500 := n1_; have BK492 := n2_; have BK503 := n3_; have HB := n4_; clear n0_ n1_ n2_ n3_ n4_; have p504 : 0 ≤ (x6_2 : Int) := of_decide_eq_true (by first | (with_reducible assumption) | assumption); have q504 : x6_2 < (l0.length : Int) := of_decide_eq_true (by first | (with_reducible assumption) | assumption); obtain ⟨ad504, e504, hx504_0⟩ := Kd.at_string HR0.out x6_2 p504 q504; obtain rfl : ad493 = ad504 := (by injection e504); replace hx504_0 := (HB.out.cell (World.block_lt_of_cell? w _ hx504_0)).trans hx504_0; replace p504 := eq_true p504; replace q504 := eq_true q504; have p505 : 0 ≤ (x6_2 : Int) := of_decide_eq_true (by first | (with_reducible assumption) | assumption); have q505 : x6_2 < (l0.length : Int) := of_decide_eq_true (by first | (with_reducible assumption) | assumption); obtain ⟨ad505, e505, hx505_0⟩ := Kd.at_string HR0.out x6_2 p505 q505; obtain rfl : ad493 = ad505 := (by injection e505); replace hx505_0 := (HB.out.cell (World.block_lt_of_cell? w _ hx505_0)).trans hx505_0; replace p505 := eq_true p505; replace q505 := eq_true q505; have hcz28_0 : w27.cell? ⟨gb492, 0, none⟩ = some (.int .i64 4) := (blk_cell BK492.out 0).trans rfl; have hcz28_1 : w27.cell? ⟨gb492, 1, none⟩ = some (.string (⟨#[]⟩ : ByteArray)) := (blk_cell BK492.out 1).trans rfl; have hcz28_2 : w27.cell? ⟨gb492, 2, none⟩ = some (.int .i64 0) := (blk_cell BK492.out 2).trans rfl; have hcz28_3 : w27.cell? ⟨gb492, 3, none⟩ = some (.int .i64 0) := (blk_cell BK492.out 3).trans rfl; have hcz28_4 : w27.cell? ⟨gb492, 4, none⟩ = some (u493004) := (blk_cell BK492.out 4).trans rfl; have hfz28_0 := blk_frozen BK492.out 0; have hfz28_1 := blk_frozen BK492.out 1; have hfz28_2 := blk_frozen BK492.out 2; have hfz28_3 := blk_frozen BK492.out 3; have hfz28_4 := blk_frozen BK492.out 4; have hcz29_0 : w27.cell? ⟨gb503, 0, none⟩ = some (.int .i64 t494) := (blk_cell BK503.out 0).trans rfl; have hcz29_1 : w27.cell? ⟨gb503, 1, none⟩ = some (.string t495) := (blk_cell BK503.out 1).trans rfl; have hcz29_2 : w27.cell? ⟨gb503, 2, none⟩ = some (.int .i64 t496) := (blk_cell BK503.out 2).trans rfl; have hcz29_3 : w27.cell? ⟨gb503, 3, none⟩ = some (.int .i64 t497) := (blk_cell BK503.out 3).trans rfl; have hcz29_4 : w27.cell? ⟨gb503, 4, none⟩ = some (.slice Ao26 t498.length co26) := (blk_cell BK503.out 4).trans rfl; have hfz29_0 := blk_frozen BK503.out 0; have hfz29_1 := blk_frozen BK503.out 1; have hfz29_2 := blk_frozen BK503.out 2; have hfz29_3 := blk_frozen BK503.out 3; have hfz29_4 := blk_frozen BK503.out 4) | ((with_reducible refine gate_builtin (b := .append) (xs := #[.tmp 56, .tmp 58]) rfl ?_); (try (refine gate_guard (by rfl) ?_; dsimp only)); at_builtin; refine Kd.R_append k39 (w0 := w) w.heap.size rfl (.tmp 56) (.tmp 58) 37 39 (.agg #[(.int .i64 0), (.string ⟨#[]⟩), (.int .i64 0), (.int .i64 0), (.slice none 0 0)]) 64 rfl Tryd.underlying37 info39 rfl (by decide) (by omega) u493004 x493004_2 (⟨t494, t495, t496, t497, t498⟩ : S39) [.int .i64 t494, .string t495, .int .i64 t496, .int .i64 t497, .slice Ao26 t498.length co26] (fun k_ => k_ ≠ gb492 ∧ k_ ≠ gb503) (fun k_ => ((fun k_ => k_ ≠ gb492 ∧ k_ ≠ gb503)) k_ ∧ some k_ ≠ (u493004 : Value).ownBlock) rfl rfl ?aP (fun _ hk => hk) ?aF ?aO ?aB ?aS ?aL ?_; (case aP => exact k39_mkM _ _ _ (⟨t494, t495, t496, t497, t498⟩ : S39) (Kd.R_mono (HO500.out) (fun k_ hk => ⟨⟨hk.2.1, hk.2.2⟩, hk.1⟩))); (case aB => exact (by repeat (first | (with_reducible first | exact HB.out | apply below_alloc | apply pw_below_drewN | apply below_drew1 | refine below_set ?_ GE492.out | refine below_set ?_ GE503.out) | exact HB.out))); (case aF => exact (fun k_ hk => ⟨Kd.freshB (g := gb492) (o := .cells #[.int .i64 4, .string (⟨#[]⟩ : ByteArray), .int .i64 0, .int .i64 0, u493004] 39 (0, 0)) (by (with_reducible repeat (first | refine blk_drewN ?_ _ | refine blk_drew ?_ | refine blk_alloc ?_ _)); exact BK492.out) k_ hk, Kd.freshB (g := gb503) (o := .cells #[.int .i64 t494, .string t495, .int .i64 t496, .int .i64 t497, .slice Ao26 t498.length co26] 39 (0, 0)) (by (with_reducible repeat (first | refine blk_drewN ?_ _ | refine blk_drew ?_ | refine blk_alloc ?_ _)); exact BK503.out) k_ hk⟩)); (case aO => exact (by (with_reducible repeat (first | apply Kd.R_alloc | apply Kd.R_drewN | apply Kd.R_drew)); exact Kd.R_mono HO_493004.out (fun _ hk => ⟨hk.2.1, hk.2.2⟩))); (case aS => exact (below_size (by repeat (first | (with_reducible first | exact HB.out | apply below_alloc | apply pw_below_drewN | apply below_drew1 | refine below_set ?_ GE492.out | refine below_set ?_ GE503.out) | exact HB.out)))); (case aL => have := LMc21.out; omega); intro v507 w30 ho hb hg hat; rw [← Ny506.out] at ho; have n0_ := Aside0.mk (blk_grown (g := gb492) (o := .cells #[.int .i64 4, .string (⟨#[]⟩ : ByteArray), .int .i64 0, .int .i64 0, u493004] 39 (0, 0)) (by (with_reducible repeat (first | refine blk_drewN ?_ _ | refine blk_drew ?_ | refine blk_alloc ?_ _)); exact BK492.out) hg (Kd.R_away HO_493004.out (fun _ hk => hk.2.1))); have n1_ := Aside0.mk (blk_grown (g := gb503) (o := .cells #[.int .i64 t494, .string t495, .int .i64 t496, .int .i64 t497, .slice Ao26 t498.length co26] 39 (0, 0)) (by (with_reducible repeat (first | refine blk_drewN ?_ _ | refine blk_drew ?_ | refine blk_alloc ?_ _)); exact BK503.out) hg (Kd.R_away HO_493004.out (fun _ hk => hk.2.2))); have n2_ := Aside0.mk (hb); have n3_ := Aside0.mk (ho); clear BK492; clear BK503; clear HB; clear HO_493004; clear HO500; have BK492 := n0_; have BK503 := n1_; have HB := n2_; have HO508 := n3_; clear n0_ n1_ n2_ n3_; clear ho hb hg hat; obtain ⟨Ao31, co31, eo31⟩ := Kd.R_slice HO508.out; subst eo31; have hcz32_0 : w30.cell? ⟨gb492, 0, none⟩ = some (.int .i64 4) := (blk_cell BK492.out 0).trans rfl; have hcz32_1 : w30.cell? ⟨gb492, 1, none⟩ = some (.string (⟨#[]⟩ : ByteArray)) := (blk_cell BK492.out 1).trans rfl; have hcz32_2 : w30.cell? ⟨gb492, 2, none⟩ = some (.int .i64 0) := (blk_cell BK492.out 2).trans rfl; have hcz32_3 : w30.cell? ⟨gb492, 3, none⟩ = some (.int .i64 0) := (blk_cell BK492.out 3).trans rfl; have hcz32_4 : w30.cell? ⟨gb492, 4, none⟩ = some (u493004) := (blk_cell BK492.out 4).trans rfl; have hfz32_0 := blk_frozen BK492.out 0; have hfz32_1 := blk_frozen BK492.out 1; have hfz32_2 := blk_frozen BK492.out 2; have hfz32_3 := blk_frozen BK492.out 3; have hfz32_4 := blk_frozen BK492.out 4))
                          go_roundg k2
                          case measure => have := HJ2.out; have := HK2.out; omega
                          case rel => exact ⟨((x4_2 ++ (rdOf ByteArray.empty l0 x6_2)) ++ (⟨#[10]⟩ : ByteArray)), (wrap64 (x6_2 + 1)), (y506), (.slice Ao31 y506.length co31), (by first | rfl | (simp; done) | (simp [*]; done)), (by first | rfl | (simp; done) | (simp [*]; done)), H', ⟨by have := HJ2.out; have := HK2.out; omega⟩, ⟨by (with_reducible repeat (first | apply Kd.R_alloc | apply Kd.R_drewN | apply Kd.R_drew)); exact Kd.R_mono (Kd.R_far (p := ⟨gb492, 4, none⟩) (Kd.R_mono HO508.out (fun k_ hk => (⟨hk, hk.1⟩ : _ ∧ k_ ≠ gb492))) (fun _ hk => hk.2) (.slice Ao31 y506.length co31)) (fun _ hk => hk.1.1)⟩, ⟨by (with_reducible repeat (first | refine blk_drewN ?_ _ | refine blk_drew ?_ | refine blk_alloc ?_ _)); refine blk_put (cs := #[.int .i64 4, .string (⟨#[]⟩ : ByteArray), .int .i64 0, .int .i64 0, u493004]) ?_ 4 _ rfl; (with_reducible repeat (first | refine blk_drewN ?_ _ | refine blk_drew ?_ | refine blk_alloc ?_ _)); exact BK492.out⟩, ⟨by repeat (first | (with_reducible first | exact HB.out | apply below_alloc | apply pw_below_drewN | apply below_drew1 | refine below_set ?_ GE492.out | refine below_set ?_ GE503.out) | exact HB.out)⟩⟩
                        · rw [if_neg c21] at H
                          exact absurd H (by simp)
                      · rw [if_neg c20] at H
                        exact absurd H (by simp)
                    · rw [if_neg c19] at H
                      exact absurd H (by simp)
                · rw [if_neg c12] at H
                  have c12b0 : (t502 == 0) = false := beq_eq_false_iff_ne.mpr c12
                  have c12b1 : (t502 != 0) = true := bne_iff_ne.mpr c12
                  clear H
                  have p493 : 0 ≤ (x6_2 : Int) := of_decide_eq_true (by first | (with_reducible assumption) | assumption)
                  have q493 : x6_2 < (l0.length : Int) := of_decide_eq_true (by first | (with_reducible assumption) | assumption)
                  obtain ⟨ad493, e493, hx493_0⟩ := Kd.at_string HR0.out x6_2 p493 q493
                  cases e493
                  replace hx493_0 := (HB.out.cell (World.block_lt_of_cell? w _ hx493_0)).trans hx493_0
                  replace p493 := eq_true p493
                  replace q493 := eq_true q493
                  go_wp2_with (first | ((with_reducible refine gate_callee (f := 24) rfl ?_); refine goesL_ (some 34) rfl rfl Tryd.func24 (by kernel_rfl) rfl #[.string (rdOf ByteArray.empty l0 x6_2)] rfl (by (try simp only [List.map_toArray, List.map_cons, List.map_nil]); first | done | rfl | (simp only [List.length_drop, List.length_take]; rfl)) ?_; (with_reducible refine (sexp_Parse.calls (rdOf ByteArray.empty l0 x6_2) t494 t495 t496 t497 t498 t501 t502 _ ?side1 A11.out).mono ?_); (case side1 => exact hG.below (by repeat (first | (with_reducible first | exact HB.out | apply below_alloc | apply pw_below_drewN | apply below_drew1 | refine below_set ?_ GE492.out) | exact HB.out))); rintro e w33 ⟨v499, rfl, ho0, hb⟩; refine ⟨_, rfl, ?_⟩; have n0_ := Aside0.mk (Kd.R_elder' (by (with_reducible repeat (first | apply Kd.R_alloc | apply Kd.R_drewN | apply Kd.R_drew)); exact HO_493004.out) (Kd.R_base ho0) hb); have n1_ := Aside0.mk (Kd.R_lower (Kd.R_newB (Kd.R_new' ho0 (Kd.R_lt (by (with_reducible repeat (first | apply Kd.R_alloc | apply Kd.R_drewN | apply Kd.R_drew)); exact HO_493004.out))) (g := gb492) (o := .cells #[.int .i64 4, .string (⟨#[]⟩ : ByteArray), .int .i64 0, .int .i64 0, u493004] 39 (0, 0)) (by (with_reducible repeat (first | refine blk_drewN ?_ _ | refine blk_drew ?_ | refine blk_alloc ?_ _)); exact BK492.out)) (below_size (by repeat (first | (with_reducible first | exact HB.out | apply below_alloc | apply pw_below_drewN | apply below_drew1 | refine below_set ?_ GE492.out) | exact HB.out)))); have n2_ := Aside0.mk (blk_below (g := gb492) (o := .cells #[.int .i64 4, .string (⟨#[]⟩ : ByteArray), .int .i64 0, .int .i64 0, u493004] 39 (0, 0)) (by (with_reducible repeat (first | refine blk_drewN ?_ _ | refine blk_drew ?_ | refine blk_alloc ?_ _)); exact BK492.out) hb); have n3_ := Aside0.mk (below_step (by repeat (first | (with_reducible first | exact HB.out | apply below_alloc | apply pw_below_drewN | apply below_drew1 | refine below_set ?_ GE492.out) | exact HB.out)) hb); clear HO_493004; clear BK492; clear HB; have HO_493004 := n0_; have HO500 := n1_; have BK492 := n2_; have HB := n3_; clear n0_ n1_ n2_ n3_; (try clear hb); (try clear hb2); (try clear hk); (try clear hi); (try clear ho0)) | ((with_reducible refine gate_dst (N := 7) rfl ?_); (try (refine gate_guard (by rfl) ?_; dsimp only)); refine box_event ?hg (N := 7) ?hd (cs := #[.int .i64 0, .string (⟨#[]⟩ : ByteArray), .int .i64 0, .int .i64 0, .slice none 0 0]) (t := 39) ?hr ?_; (case hd => rfl); (case hg => rfl); (case hr => first | (go_simp; done) | (go_simp; rfl)); intro gb503 hg w34 hbox hb; have n0_ := Aside0.mk (Kd.R_below (Kd.R_elderB (by (with_reducible repeat (first | apply Kd.R_alloc | apply Kd.R_drewN | apply Kd.R_drew)); exact HO_493004.out) gb503 (Nat.le_of_eq hg.symm)) hb); have n1_ := Aside0.mk (Kd.R_below (Kd.R_elderB (by (with_reducible repeat (first | apply Kd.R_alloc | apply Kd.R_drewN | apply Kd.R_drew)); exact HO500.out) gb503 (Nat.le_of_eq hg.symm)) hb); have n2_ := Aside0.mk (blk_below (g := gb492) (o := .cells #[.int .i64 4, .string (⟨#[]⟩ : ByteArray), .int .i64 0, .int .i64 0, u493004] 39 (0, 0)) (by (with_reducible repeat (first | refine blk_drewN ?_ _ | refine blk_drew ?_ | refine blk_alloc ?_ _)); exact BK492.out) hb); have n3_ := Aside0.mk (below_step (by repeat (first | (with_reducible first | exact HB.out | apply below_alloc | apply pw_below_drewN | apply below_drew1 | refine below_set ?_ GE492.out) | exact HB.out)) hb); have n4_ := Aside0.mk (hbox); have n5_ := Aside0.mk ((by rw [hg]; exact (below_size (by repeat (first | (with_reducible first | exact HB.out | apply below_alloc | apply pw_below_drewN | apply below_drew1 | refine below_set ?_ GE492.out) | exact HB.out))) : w.heap.size ≤ gb503)); have n6_ := Aside0.mk ((by rw [hg]; exact (below_size (by repeat (first | (with_reducible first | exact HB.out | apply below_alloc | apply pw_below_drewN | apply below_drew1 | refine below_set ?_ GE492.out) | exact HB.out))) : w.heap.size ≤ gb503)); have n7_ := Aside0.mk ((by rw [hg]; exact Nat.ne_of_lt (blk_lt (g := gb492) (o := .cells #[.int .i64 4, .string (⟨#[]⟩ : ByteArray), .int .i64 0, .int .i64 0, u493004] 39 (0, 0)) (by (with_reducible repeat (first | refine blk_drewN ?_ _ | refine blk_drew ?_ | refine blk_alloc ?_ _)); exact BK492.out)) : gb492 ≠ gb503)); have n8_ := Aside0.mk ((by rw [hg]; exact Nat.ne_of_gt (blk_lt (g := gb492) (o := .cells #[.int .i64 4, .string (⟨#[]⟩ : ByteArray), .int .i64 0, .int .i64 0, u493004] 39 (0, 0)) (by (with_reducible repeat (first | refine blk_drewN ?_ _ | refine blk_drew ?_ | refine blk_alloc ?_ _)); exact BK492.out)) : gb503 ≠ gb492)); clear HO_493004; clear HO500; clear BK492; clear HB; have HO_493004 := n0_; have HO500 := n1_; have BK492 := n2_; have HB := n3_; have BK503 := n4_; have GW503 := n5_; have GE503 := n6_; have NB492_503 := n7_; have NB503_492 := n8_; clear n0_ n1_ n2_ n3_ n4_ n5_ n6_ n7_ n8_; clear hb hbox hg; have hnb35 := NB503_492.out; have hnc35 := NB492_503.out; have hcz36_0 : w34.cell? ⟨gb503, 0, none⟩ = some (.int .i64 0) := (blk_cell BK503.out 0).trans rfl; have hcz36_1 : w34.cell? ⟨gb503, 1, none⟩ = some (.string (⟨#[]⟩ : ByteArray)) := (blk_cell BK503.out 1).trans rfl; have hcz36_2 : w34.cell? ⟨gb503, 2, none⟩ = some (.int .i64 0) := (blk_cell BK503.out 2).trans rfl; have hcz36_3 : w34.cell? ⟨gb503, 3, none⟩ = some (.int .i64 0) := (blk_cell BK503.out 3).trans rfl; have hcz36_4 : w34.cell? ⟨gb503, 4, none⟩ = some (.slice none 0 0) := (blk_cell BK503.out 4).trans rfl; have hfz36_0 := blk_frozen BK503.out 0; have hfz36_1 := blk_frozen BK503.out 1; have hfz36_2 := blk_frozen BK503.out 2; have hfz36_3 := blk_frozen BK503.out 3; have hfz36_4 := blk_frozen BK503.out 4; obtain ⟨Ao37, co37, eo37⟩ := Kd.R_slice HO500.out; subst eo37))
                  go_ret
                  exact ⟨by first | rfl | (simp [] <;> rfl) | (simp [*] <;> rfl), by repeat (first | (with_reducible first | exact HB.out | apply below_alloc | apply pw_below_drewN | apply below_drew1 | refine below_set ?_ GE492.out | refine below_set ?_ GE503.out) | exact HB.out)⟩
              · rw [if_neg c10] at H
                exact absurd H (by simp)
            · rw [if_neg c9] at H
              have c9b0 : decide (x6_2 < (l0.length : Int)) = false := decide_eq_false c9
              clear c9
              by_cases c38 : x4_2.size + 1 ≤ 9223372036854775807
              · rw [if_pos c38] at H
                have c38b0 := eq_true c38
                have c38b1 : decide (x4_2.size + 1 ≤ 9223372036854775807) = true := decide_eq_true c38
                try have c38b2 : (9223372036854775807 < x4_2.size + 1) = False := eq_false (Nat.not_lt.2 c38)
                replace H := Option.bind_eq_some_iff.mp H
                obtain ⟨⟨t509, t510, t511, t512, t513, t516, t517⟩, A390, H⟩ := H
                replace H : (if t517 = 0 then (if t516 = (wrap64 ((x4_2.size : Int) + 1)) then ((sexp_Same.f t509 t510 t511 t512 t513 4 (⟨#[]⟩ : ByteArray) 0 0 x493004_2).bind fun t519 => (if t519 = true then ((sexp_May.f 4 (⟨#[]⟩ : ByteArray) 0 0 x493004_2).bind fun t520 => (some t520)) else (some false))) else (some false)) else (if t517 = 2 then ((sexp_May.f 4 (⟨#[]⟩ : ByteArray) 0 0 x493004_2).bind fun t521 => (if t521 = true then (some (decide ((x4_2.size : Int) > 1000))) else (some true))) else (some false))) = some true := H
                have A39 := Aside0.mk A390
                clear A390
                by_cases c40 : t517 = 0
                · rw [if_pos c40] at H
                  have c40b0 : (t517 == 0) = true := beq_iff_eq.mpr c40
                  have c40b1 : (t517 != 0) = false := bne_eq_false_iff_eq.mpr c40
                  clear c40
                  by_cases c41 : t516 = (wrap64 ((x4_2.size : Int) + 1))
                  · rw [if_pos c41] at H
                    have c41b0 : (t516 == (wrap64 ((x4_2.size : Int) + 1))) = true := beq_iff_eq.mpr c41
                    have c41b1 : (t516 != (wrap64 ((x4_2.size : Int) + 1))) = false := bne_eq_false_iff_eq.mpr c41
                    have c41w : wrap64 ((x4_2.size : Int) + 1) = (x4_2.size : Int) + 1 := by have h_ : x4_2.size + 1 ≤ 9223372036854775807 := of_eq_true (by assumption); unfold wrap64; omega
                    have c41b3 : (t516 == ((x4_2.size : Int) + 1)) = true := by rw [← c41w]; exact c41b0
                    clear c41w
                    clear c41
                    replace H := Option.bind_eq_some_iff.mp H
                    obtain ⟨t519, A420, H⟩ := H
                    replace H : (if t519 = true then ((sexp_May.f 4 (⟨#[]⟩ : ByteArray) 0 0 x493004_2).bind fun t520 => (some t520)) else (some false)) = some true := H
                    have A42 := Aside0.mk A420
                    clear A420
                    by_cases c43 : t519 = true
                    · subst c43
                      have H1 : ((sexp_May.f 4 (⟨#[]⟩ : ByteArray) 0 0 x493004_2).bind fun t520 => (some t520)) = some true := by first | (rw [if_pos rfl] at H; exact H) | rfl
                      clear H
                      have H := H1
                      clear H1
                      replace H := Option.bind_eq_some_iff.mp H
                      obtain ⟨t520, A440, H⟩ := H
                      replace H : (some t520) = some true := H
                      have A44 := Aside0.mk A440
                      clear A440
                      have hv_ := Option.some.inj H
                      go_wp2_with (first | ((with_reducible refine gate_callee (f := 24) rfl ?_); refine goesL_ (some 64) rfl rfl Tryd.func24 (by kernel_rfl) rfl #[.string (x4_2 ++ (⟨#[41]⟩ : ByteArray))] rfl (by (try simp only [List.map_toArray, List.map_cons, List.map_nil]); first | done | rfl | (simp only [List.length_drop, List.length_take]; rfl)) ?_; (with_reducible refine (sexp_Parse.calls (x4_2 ++ (⟨#[41]⟩ : ByteArray)) t509 t510 t511 t512 t513 t516 t517 _ ?side1 A39.out).mono ?_); (case side1 => exact hG.below (by repeat (first | (with_reducible first | exact HB.out | apply below_alloc | apply pw_below_drewN | apply below_drew1 | refine below_set ?_ GE492.out) | exact HB.out))); rintro e w45 ⟨v514, rfl, ho0, hb⟩; refine ⟨_, rfl, ?_⟩; have n0_ := Aside0.mk (Kd.R_elder' (by (with_reducible repeat (first | apply Kd.R_alloc | apply Kd.R_drewN | apply Kd.R_drew)); exact HO_493004.out) (Kd.R_base ho0) hb); have n1_ := Aside0.mk (Kd.R_lower (Kd.R_newB (Kd.R_new' ho0 (Kd.R_lt (by (with_reducible repeat (first | apply Kd.R_alloc | apply Kd.R_drewN | apply Kd.R_drew)); exact HO_493004.out))) (g := gb492) (o := .cells #[.int .i64 4, .string (⟨#[]⟩ : ByteArray), .int .i64 0, .int .i64 0, u493004] 39 (0, 0)) (by (with_reducible repeat (first | refine blk_drewN ?_ _ | refine blk_drew ?_ | refine blk_alloc ?_ _)); exact BK492.out)) (below_size (by repeat (first | (with_reducible first | exact HB.out | apply below_alloc | apply pw_below_drewN | apply below_drew1 | refine below_set ?_ GE492.out) | exact HB.out)))); have n2_ := Aside0.mk (blk_below (g := gb492) (o := .cells #[.int .i64 4, .string (⟨#[]⟩ : ByteArray), .int .i64 0, .int .i64 0, u493004] 39 (0, 0)) (by (with_reducible repeat (first | refine blk_drewN ?_ _ | refine blk_drew ?_ | refine blk_alloc ?_ _)); exact BK492.out) hb); have n3_ := Aside0.mk (below_step (by repeat (first | (with_reducible first | exact HB.out | apply below_alloc | apply pw_below_drewN | apply below_drew1 | refine below_set ?_ GE492.out) | exact HB.out)) hb); clear HO_493004; clear BK492; clear HB; have HO_493004 := n0_; have HO515 := n1_; have BK492 := n2_; have HB := n3_; clear n0_ n1_ n2_ n3_; (try clear hb); (try clear hb2); (try clear hk); (try clear hi); (try clear ho0)) | ((with_reducible refine gate_dst (N := 10) rfl ?_); (try (refine gate_guard (by rfl) ?_; dsimp only)); refine box_event ?hg (N := 10) ?hd (cs := #[.int .i64 0, .string (⟨#[]⟩ : ByteArray), .int .i64 0, .int .i64 0, .slice none 0 0]) (t := 39) ?hr ?_; (case hd => rfl); (case hg => rfl); (case hr => first | (go_simp; done) | (go_simp; rfl)); intro gb518 hg w46 hbox hb; have n0_ := Aside0.mk (Kd.R_below (Kd.R_elderB (by (with_reducible repeat (first | apply Kd.R_alloc | apply Kd.R_drewN | apply Kd.R_drew)); exact HO_493004.out) gb518 (Nat.le_of_eq hg.symm)) hb); have n1_ := Aside0.mk (Kd.R_below (Kd.R_elderB (by (with_reducible repeat (first | apply Kd.R_alloc | apply Kd.R_drewN | apply Kd.R_drew)); exact HO515.out) gb518 (Nat.le_of_eq hg.symm)) hb); have n2_ := Aside0.mk (blk_below (g := gb492) (o := .cells #[.int .i64 4, .string (⟨#[]⟩ : ByteArray), .int .i64 0, .int .i64 0, u493004] 39 (0, 0)) (by (with_reducible repeat (first | refine blk_drewN ?_ _ | refine blk_drew ?_ | refine blk_alloc ?_ _)); exact BK492.out) hb); have n3_ := Aside0.mk (below_step (by repeat (first | (with_reducible first | exact HB.out | apply below_alloc | apply pw_below_drewN | apply below_drew1 | refine below_set ?_ GE492.out) | exact HB.out)) hb); have n4_ := Aside0.mk (hbox); have n5_ := Aside0.mk ((by rw [hg]; exact (below_size (by repeat (first | (with_reducible first | exact HB.out | apply below_alloc | apply pw_below_drewN | apply below_drew1 | refine below_set ?_ GE492.out) | exact HB.out))) : w.heap.size ≤ gb518)); have n6_ := Aside0.mk ((by rw [hg]; exact (below_size (by repeat (first | (with_reducible first | exact HB.out | apply below_alloc | apply pw_below_drewN | apply below_drew1 | refine below_set ?_ GE492.out) | exact HB.out))) : w.heap.size ≤ gb518)); have n7_ := Aside0.mk ((by rw [hg]; exact Nat.ne_of_lt (blk_lt (g := gb492) (o := .cells #[.int .i64 4, .string (⟨#[]⟩ : ByteArray), .int .i64 0, .int .i64 0, u493004] 39 (0, 0)) (by (with_reducible repeat (first | refine blk_drewN ?_ _ | refine blk_drew ?_ | refine blk_alloc ?_ _)); exact BK492.out)) : gb492 ≠ gb518)); have n8_ := Aside0.mk ((by rw [hg]; exact Nat.ne_of_gt (blk_lt (g := gb492) (o := .cells #[.int .i64 4, .string (⟨#[]⟩ : ByteArray), .int .i64 0, .int .i64 0, u493004] 39 (0, 0)) (by (with_reducible repeat (first | refine blk_drewN ?_ _ | refine blk_drew ?_ | refine blk_alloc ?_ _)); exact BK492.out)) : gb518 ≠ gb492)); clear HO_493004; clear HO515; clear BK492; clear HB; have HO_493004 := n0_; have HO515 := n1_; have BK492 := n2_; have HB := n3_; have BK518 := n4_; have GW518 := n5_; have GE518 := n6_; have NB492_518 := n7_; have NB518_492 := n8_; clear n0_ n1_ n2_ n3_ n4_ n5_ n6_ n7_ n8_; clear hb hbox hg; have hnb47 := NB518_492.out; have hnc47 := NB492_518.out; have hcz48_0 : w46.cell? ⟨gb518, 0, none⟩ = some (.int .i64 0) := (blk_cell BK518.out 0).trans rfl; have hcz48_1 : w46.cell? ⟨gb518, 1, none⟩ = some (.string (⟨#[]⟩ : ByteArray)) := (blk_cell BK518.out 1).trans rfl; have hcz48_2 : w46.cell? ⟨gb518, 2, none⟩ = some (.int .i64 0) := (blk_cell BK518.out 2).trans rfl; have hcz48_3 : w46.cell? ⟨gb518, 3, none⟩ = some (.int .i64 0) := (blk_cell BK518.out 3).trans rfl; have hcz48_4 : w46.cell? ⟨gb518, 4, none⟩ = some (.slice none 0 0) := (blk_cell BK518.out 4).trans rfl; have hfz48_0 := blk_frozen BK518.out 0; have hfz48_1 := blk_frozen BK518.out 1; have hfz48_2 := blk_frozen BK518.out 2; have hfz48_3 := blk_frozen BK518.out 3; have hfz48_4 := blk_frozen BK518.out 4; obtain ⟨Ao49, co49, eo49⟩ := Kd.R_slice HO515.out; subst eo49; have hcz50_0 : w46.cell? ⟨gb492, 0, none⟩ = some (.int .i64 4) := (blk_cell BK492.out 0).trans rfl; have hcz50_1 : w46.cell? ⟨gb492, 1, none⟩ = some (.string (⟨#[]⟩ : ByteArray)) := (blk_cell BK492.out 1).trans rfl; have hcz50_2 : w46.cell? ⟨gb492, 2, none⟩ = some (.int .i64 0) := (blk_cell BK492.out 2).trans rfl; have hcz50_3 : w46.cell? ⟨gb492, 3, none⟩ = some (.int .i64 0) := (blk_cell BK492.out 3).trans rfl; have hcz50_4 : w46.cell? ⟨gb492, 4, none⟩ = some (u493004) := (blk_cell BK492.out 4).trans rfl; have hfz50_0 := blk_frozen BK492.out 0; have hfz50_1 := blk_frozen BK492.out 1; have hfz50_2 := blk_frozen BK492.out 2; have hfz50_3 := blk_frozen BK492.out 3; have hfz50_4 := blk_frozen BK492.out 4; obtain ⟨Ao51, co51, eo51⟩ := Kd.R_slice HO_493004.out; subst eo51) | (go_at_call 32; (with_reducible refine (sexp_Same.calls t509 t510 t511 t512 _ _ t513 4 (⟨#[]⟩ : ByteArray) 0 0 _ _ x493004_2 true _ ?side1 ?side2 ?side3 ?side4 A42.out).mono ?_); (case side1 => refine (Kd.R_reads' (e := 39) (base := w.heap.size) (ok := fun k_ => (((True ∧ some k_ ≠ (.slice Ao51 x493004_2.length co51 : Value).ownBlock) ∧ k_ ≠ gb492) ∧ k_ ≠ gb518)) (n := t513.length) (c := co49) ?_).2.2; exact (by (with_reducible repeat (first | apply Kd.R_alloc | apply Kd.R_drewN | apply Kd.R_drew)); exact (Kd.R_mono (Kd.R_far (p := ⟨gb518, 4, none⟩) (Kd.R_far (p := ⟨gb518, 3, none⟩) (Kd.R_far (p := ⟨gb518, 2, none⟩) (Kd.R_far (p := ⟨gb518, 1, none⟩) (Kd.R_far (p := ⟨gb518, 0, none⟩) (Kd.R_mono HO515.out (fun k_ hk => (⟨hk, hk.2⟩ : _ ∧ k_ ≠ gb518))) (fun _ hk => hk.2) (.int .i64 t509)) (fun _ hk => hk.2) (.string t510)) (fun _ hk => hk.2) (.int .i64 t511)) (fun _ hk => hk.2) (.int .i64 t512)) (fun _ hk => hk.2) (.slice Ao49 t513.length co49)) (fun _ h_ => h_.1)))); (case side2 => exact (Kd.R_reads' HO515.out).2.1); (case side3 => refine (Kd.R_reads' (e := 39) (base := w.heap.size) (ok := fun k_ => ((k_ ≠ gb492 ∧ some k_ ≠ (.slice Ao49 t513.length co49 : Value).ownBlock) ∧ k_ ≠ gb518)) (n := x493004_2.length) (c := co51) ?_).2.2; exact (by (with_reducible repeat (first | apply Kd.R_alloc | apply Kd.R_drewN | apply Kd.R_drew)); exact (Kd.R_mono (Kd.R_far (p := ⟨gb518, 4, none⟩) (Kd.R_far (p := ⟨gb518, 3, none⟩) (Kd.R_far (p := ⟨gb518, 2, none⟩) (Kd.R_far (p := ⟨gb518, 1, none⟩) (Kd.R_far (p := ⟨gb518, 0, none⟩) (Kd.R_mono HO_493004.out (fun k_ hk => (⟨hk, hk.2⟩ : _ ∧ k_ ≠ gb518))) (fun _ hk => hk.2) (.int .i64 t509)) (fun _ hk => hk.2) (.string t510)) (fun _ hk => hk.2) (.int .i64 t511)) (fun _ hk => hk.2) (.int .i64 t512)) (fun _ hk => hk.2) (.slice Ao49 t513.length co49)) (fun _ h_ => h_.1)))); (case side4 => exact (Kd.R_reads' HO_493004.out).2.1); rintro e w52 ⟨rfl, hb⟩; have n0_ := Aside0.mk (Kd.R_below (by (with_reducible repeat (first | apply Kd.R_alloc | apply Kd.R_drewN | apply Kd.R_drew)); exact (Kd.R_mono (Kd.R_far (p := ⟨gb518, 4, none⟩) (Kd.R_far (p := ⟨gb518, 3, none⟩) (Kd.R_far (p := ⟨gb518, 2, none⟩) (Kd.R_far (p := ⟨gb518, 1, none⟩) (Kd.R_far (p := ⟨gb518, 0, none⟩) (Kd.R_mono HO_493004.out (fun k_ hk => (⟨hk, hk.2⟩ : _ ∧ k_ ≠ gb518))) (fun _ hk => hk.2) (.int .i64 t509)) (fun _ hk => hk.2) (.string t510)) (fun _ hk => hk.2) (.int .i64 t511)) (fun _ hk => hk.2) (.int .i64 t512)) (fun _ hk => hk.2) (.slice Ao49 t513.length co49)) (fun _ h_ => h_.1))) hb); have n1_ := Aside0.mk (Kd.R_below (by (with_reducible repeat (first | apply Kd.R_alloc | apply Kd.R_drewN | apply Kd.R_drew)); exact (Kd.R_mono (Kd.R_far (p := ⟨gb518, 4, none⟩) (Kd.R_far (p := ⟨gb518, 3, none⟩) (Kd.R_far (p := ⟨gb518, 2, none⟩) (Kd.R_far (p := ⟨gb518, 1, none⟩) (Kd.R_far (p := ⟨gb518, 0, none⟩) (Kd.R_mono HO515.out (fun k_ hk => (⟨hk, hk.2⟩ : _ ∧ k_ ≠ gb518))) (fun _ hk => hk.2) (.int .i64 t509)) (fun _ hk => hk.2) (.string t510)) (fun _ hk => hk.2) (.int .i64 t511)) (fun _ hk => hk.2) (.int .i64 t512)) (fun _ hk => hk.2) (.slice Ao49 t513.length co49)) (fun _ h_ => h_.1))) hb); have n2_ := Aside0.mk (blk_below (g := gb492) (o := .cells #[.int .i64 4, .string (⟨#[]⟩ : ByteArray), .int .i64 0, .int .i64 0, .slice Ao51 x493004_2.length co51] 39 (0, 0)) (by (with_reducible repeat (first | refine blk_drewN ?_ _ | refine blk_drew ?_ | refine blk_alloc ?_ _)); refine blk_far ?_ NB492_518.out _; (with_reducible repeat (first | refine blk_drewN ?_ _ | refine blk_drew ?_ | refine blk_alloc ?_ _)); refine blk_far ?_ NB492_518.out _; (with_reducible repeat (first | refine blk_drewN ?_ _ | refine blk_drew ?_ | refine blk_alloc ?_ _)); refine blk_far ?_ NB492_518.out _; (with_reducible repeat (first | refine blk_drewN ?_ _ | refine blk_drew ?_ | refine blk_alloc ?_ _)); refine blk_far ?_ NB492_518.out _; (with_reducible repeat (first | refine blk_drewN ?_ _ | refine blk_drew ?_ | refine blk_alloc ?_ _)); refine blk_far ?_ NB492_518.out _; (with_reducible repeat (first | refine blk_drewN ?_ _ | refine blk_drew ?_ | refine blk_alloc ?_ _)); exact BK492.out) hb); have n3_ := Aside0.mk (blk_below (g := gb518) (o := .cells #[.int .i64 t509, .string t510, .int .i64 t511, .int .i64 t512, .slice Ao49 t513.length co49] 39 (0, 0)) (by (with_reducible repeat (first | refine blk_drewN ?_ _ | refine blk_drew ?_ | refine blk_alloc ?_ _)); refine blk_put (cs := #[.int .i64 t509, .string t510, .int .i64 t511, .int .i64 t512, .slice none 0 0]) ?_ 4 _ rfl; (with_reducible repeat (first | refine blk_drewN ?_ _ | refine blk_drew ?_ | refine blk_alloc ?_ _)); refine blk_put (cs := #[.int .i64 t509, .string t510, .int .i64 t511, .int .i64 0, .slice none 0 0]) ?_ 3 _ rfl; (with_reducible repeat (first | refine blk_drewN ?_ _ | refine blk_drew ?_ | refine blk_alloc ?_ _)); refine blk_put (cs := #[.int .i64 t509, .string t510, .int .i64 0, .int .i64 0, .slice none 0 0]) ?_ 2 _ rfl; (with_reducible repeat (first | refine blk_drewN ?_ _ | refine blk_drew ?_ | refine blk_alloc ?_ _)); refine blk_put (cs := #[.int .i64 t509, .string (⟨#[]⟩ : ByteArray), .int .i64 0, .int .i64 0, .slice none 0 0]) ?_ 1 _ rfl; (with_reducible repeat (first | refine blk_drewN ?_ _ | refine blk_drew ?_ | refine blk_alloc ?_ _)); refine blk_put (cs := #[.int .i64 0, .string (⟨#[]⟩ : ByteArray), .int .i64 0, .int .i64 0, .slice none 0 0]) ?_ 0 _ rfl; (with_reducible repeat (first | refine blk_drewN ?_ _ | refine blk_drew ?_ | refine blk_alloc ?_ _)); exact BK518.out) hb); have n4_ := Aside0.mk (below_step (by repeat (first | (with_reducible first | exact HB.out | apply below_alloc | apply pw_below_drewN | apply below_drew1 | refine below_set ?_ GE492.out | refine below_set ?_ GE518.out) | exact HB.out)) hb); clear HO_493004; clear HO515; clear BK492; clear BK518; clear HB; have HO_493004 := n0_; have HO515 := n1_; have BK492 := n2_; have BK518 := n3_; have HB := n4_; clear n0_ n1_ n2_ n3_ n4_; (try clear hb); (try clear hb2); (try clear hk); (try clear hi); have hcz53_0 : w52.cell? ⟨gb492, 0, none⟩ = some (.int .i64 4) := (blk_cell BK492.out 0).trans rfl; have hcz53_1 : w52.cell? ⟨gb492, 1, none⟩ = some (.string (⟨#[]⟩ : ByteArray)) := (blk_cell BK492.out 1).trans rfl; have hcz53_2 : w52.cell? ⟨gb492, 2, none⟩ = some (.int .i64 0) := (blk_cell BK492.out 2).trans rfl; have hcz53_3 : w52.cell? ⟨gb492, 3, none⟩ = some (.int .i64 0) := (blk_cell BK492.out 3).trans rfl; have hcz53_4 : w52.cell? ⟨gb492, 4, none⟩ = some (.slice Ao51 x493004_2.length co51) := (blk_cell BK492.out 4).trans rfl; have hfz53_0 := blk_frozen BK492.out 0; have hfz53_1 := blk_frozen BK492.out 1; have hfz53_2 := blk_frozen BK492.out 2; have hfz53_3 := blk_frozen BK492.out 3; have hfz53_4 := blk_frozen BK492.out 4) | (go_at_call 25; (with_reducible refine (sexp_May.calls 4 (⟨#[]⟩ : ByteArray) 0 0 _ _ x493004_2 t520 _ ?side1 ?side2 ?side3 A44.out).mono ?_); (case side1 => exact hG.below (by repeat (first | (with_reducible first | exact HB.out | apply below_alloc | apply pw_below_drewN | apply below_drew1 | refine below_set ?_ GE492.out | refine below_set ?_ GE518.out) | exact HB.out))); (case side2 => repeat (first | exact (Kd.R_reads' HO_493004.out).2.2 | (with_reducible refine Kd.C_alloc ?_ _) | (with_reducible refine Kd.C_drewN ?_ _) | (with_reducible refine Kd.C_drew ?_))); (case side3 => exact (Kd.R_reads' HO_493004.out).2.1); rintro e w54 ⟨rfl, hb⟩; have n0_ := Aside0.mk (Kd.R_below (by (with_reducible repeat (first | apply Kd.R_alloc | apply Kd.R_drewN | apply Kd.R_drew)); exact HO_493004.out) hb); have n1_ := Aside0.mk (Kd.R_below (by (with_reducible repeat (first | apply Kd.R_alloc | apply Kd.R_drewN | apply Kd.R_drew)); exact HO515.out) hb); have n2_ := Aside0.mk (blk_below (g := gb492) (o := .cells #[.int .i64 4, .string (⟨#[]⟩ : ByteArray), .int .i64 0, .int .i64 0, .slice Ao51 x493004_2.length co51] 39 (0, 0)) (by (with_reducible repeat (first | refine blk_drewN ?_ _ | refine blk_drew ?_ | refine blk_alloc ?_ _)); exact BK492.out) hb); have n3_ := Aside0.mk (blk_below (g := gb518) (o := .cells #[.int .i64 t509, .string t510, .int .i64 t511, .int .i64 t512, .slice Ao49 t513.length co49] 39 (0, 0)) (by (with_reducible repeat (first | refine blk_drewN ?_ _ | refine blk_drew ?_ | refine blk_alloc ?_ _)); exact BK518.out) hb); have n4_ := Aside0.mk (below_step (by repeat (first | (with_reducible first | exact HB.out | apply below_alloc | apply pw_below_drewN | apply below_drew1 | refine below_set ?_ GE492.out | refine below_set ?_ GE518.out) | exact HB.out)) hb); clear HO_493004; clear HO515; clear BK492; clear BK518; clear HB; have HO_493004 := n0_; have HO515 := n1_; have BK492 := n2_; have BK518 := n3_; have HB := n4_; clear n0_ n1_ n2_ n3_ n4_; (try clear hb); (try clear hb2); (try clear hk); (try clear hi)))
                      go_ret
                      exact ⟨by first | rfl | (rw [hv_]; done) | (simp [hv_]; done) | (simp [← hv_]; done) | (simp [] <;> rfl) | (simp [*] <;> rfl), by repeat (first | (with_reducible first | exact HB.out | apply below_alloc | apply pw_below_drewN | apply below_drew1 | refine below_set ?_ GE492.out | refine below_set ?_ GE518.out) | exact HB.out)⟩
                    · replace c43 := Bool.eq_false_iff.mpr c43
                      subst c43
                      have H1 : (some false) = some true := by first | (rw [if_neg (show ¬ (false = true) by decide)] at H; exact H) | rfl
                      clear H
                      have H := H1
                      clear H1
                      exact absurd (Option.some.inj H) Bool.false_ne_true
                  · rw [if_neg c41] at H
                    have c41b0 : (t516 == (wrap64 ((x4_2.size : Int) + 1))) = false := beq_eq_false_iff_ne.mpr c41
                    have c41b1 : (t516 != (wrap64 ((x4_2.size : Int) + 1))) = true := bne_iff_ne.mpr c41
                    exact absurd (Option.some.inj H) Bool.false_ne_true
                · rw [if_neg c40] at H
                  have c40b0 : (t517 == 0) = false := beq_eq_false_iff_ne.mpr c40
                  have c40b1 : (t517 != 0) = true := bne_iff_ne.mpr c40
                  by_cases c55 : t517 = 2
                  · rw [if_pos c55] at H
                    have c55b0 : (t517 == 2) = true := beq_iff_eq.mpr c55
                    have c55b1 : (t517 != 2) = false := bne_eq_false_iff_eq.mpr c55
                    clear c55
                    replace H := Option.bind_eq_some_iff.mp H
                    obtain ⟨t521, A560, H⟩ := H
                    replace H : (if t521 = true then (some (decide ((x4_2.size : Int) > 1000))) else (some true)) = some true := H
                    have A56 := Aside0.mk A560
                    clear A560
                    by_cases c57 : t521 = true
                    · subst c57
                      have H1 : (some (decide ((x4_2.size : Int) > 1000))) = some true := by first | (rw [if_pos rfl] at H; exact H) | rfl
                      clear H
                      have H := H1
                      clear H1
                      have hv_ := Option.some.inj H
                      go_wp2_with (first | ((with_reducible refine gate_callee (f := 24) rfl ?_); refine goesL_ (some 64) rfl rfl Tryd.func24 (by kernel_rfl) rfl #[.string (x4_2 ++ (⟨#[41]⟩ : ByteArray))] rfl (by (try simp only [List.map_toArray, List.map_cons, List.map_nil]); first | done | rfl | (simp only [List.length_drop, List.length_take]; rfl)) ?_; (with_reducible refine (sexp_Parse.calls (x4_2 ++ (⟨#[41]⟩ : ByteArray)) t509 t510 t511 t512 t513 t516 t517 _ ?side1 A39.out).mono ?_); (case side1 => exact hG.below (by repeat (first | (with_reducible first | exact HB.out | apply below_alloc | apply pw_below_drewN | apply below_drew1 | refine below_set ?_ GE492.out) | exact HB.out))); rintro e w58 ⟨v514, rfl, ho0, hb⟩; refine ⟨_, rfl, ?_⟩; have n0_ := Aside0.mk (Kd.R_elder' (by (with_reducible repeat (first | apply Kd.R_alloc | apply Kd.R_drewN | apply Kd.R_drew)); exact HO_493004.out) (Kd.R_base ho0) hb); have n1_ := Aside0.mk (Kd.R_lower (Kd.R_newB (Kd.R_new' ho0 (Kd.R_lt (by (with_reducible repeat (first | apply Kd.R_alloc | apply Kd.R_drewN | apply Kd.R_drew)); exact HO_493004.out))) (g := gb492) (o := .cells #[.int .i64 4, .string (⟨#[]⟩ : ByteArray), .int .i64 0, .int .i64 0, u493004] 39 (0, 0)) (by (with_reducible repeat (first | refine blk_drewN ?_ _ | refine blk_drew ?_ | refine blk_alloc ?_ _)); exact BK492.out)) (below_size (by repeat (first | (with_reducible first | exact HB.out | apply below_alloc | apply pw_below_drewN | apply below_drew1 | refine below_set ?_ GE492.out) | exact HB.out)))); have n2_ := Aside0.mk (blk_below (g := gb492) (o := .cells #[.int .i64 4, .string (⟨#[]⟩ : ByteArray), .int .i64 0, .int .i64 0, u493004] 39 (0, 0)) (by (with_reducible repeat (first | refine blk_drewN ?_ _ | refine blk_drew ?_ | refine blk_alloc ?_ _)); exact BK492.out) hb); have n3_ := Aside0.mk (below_step (by repeat (first | (with_reducible first | exact HB.out | apply below_alloc | apply pw_below_drewN | apply below_drew1 | refine below_set ?_ GE492.out) | exact HB.out)) hb); clear HO_493004; clear BK492; clear HB; have HO_493004 := n0_; have HO515 := n1_; have BK492 := n2_; have HB := n3_; clear n0_ n1_ n2_ n3_; (try clear hb); (try clear hb2); (try clear hk); (try clear hi); (try clear ho0)) | ((with_reducible refine gate_dst (N := 10) rfl ?_); (try (refine gate_guard (by rfl) ?_; dsimp only)); refine box_event ?hg (N := 10) ?hd (cs := #[.int .i64 0, .string (⟨#[]⟩ : ByteArray), .int .i64 0, .int .i64 0, .slice none 0 0]) (t := 39) ?hr ?_; (case hd => rfl); (case hg => rfl); (case hr => first | (go_simp; done) | (go_simp; rfl)); intro gb518 hg w59 hbox hb; have n0_ := Aside0.mk (Kd.R_below (Kd.R_elderB (by (with_reducible repeat (first | apply Kd.R_alloc | apply Kd.R_drewN | apply Kd.R_drew)); exact HO_493004.out) gb518 (Nat.le_of_eq hg.symm)) hb); have n1_ := Aside0.mk (Kd.R_below (Kd.R_elderB (by (with_reducible repeat (first | apply Kd.R_alloc | apply Kd.R_drewN | apply Kd.R_drew)); exact HO515.out) gb518 (Nat.le_of_eq hg.symm)) hb); have n2_ := Aside0.mk (blk_below (g := gb492) (o := .cells #[.int .i64 4, .string (⟨#[]⟩ : ByteArray), .int .i64 0, .int .i64 0, u493004] 39 (0, 0)) (by (with_reducible repeat (first | refine blk_drewN ?_ _ | refine blk_drew ?_ | refine blk_alloc ?_ _)); exact BK492.out) hb); have n3_ := Aside0.mk (below_step (by repeat (first | (with_reducible first | exact HB.out | apply below_alloc | apply pw_below_drewN | apply below_drew1 | refine below_set ?_ GE492.out) | exact HB.out)) hb); have n4_ := Aside0.mk (hbox); have n5_ := Aside0.mk ((by rw [hg]; exact (below_size (by repeat (first | (with_reducible first | exact HB.out | apply below_alloc | apply pw_below_drewN | apply below_drew1 | refine below_set ?_ GE492.out) | exact HB.out))) : w.heap.size ≤ gb518)); have n6_ := Aside0.mk ((by rw [hg]; exact (below_size (by repeat (first | (with_reducible first | exact HB.out | apply below_alloc | apply pw_below_drewN | apply below_drew1 | refine below_set ?_ GE492.out) | exact HB.out))) : w.heap.size ≤ gb518)); have n7_ := Aside0.mk ((by rw [hg]; exact Nat.ne_of_lt (blk_lt (g := gb492) (o := .cells #[.int .i64 4, .string (⟨#[]⟩ : ByteArray), .int .i64 0, .int .i64 0, u493004] 39 (0, 0)) (by (with_reducible repeat (first | refine blk_drewN ?_ _ | refine blk_drew ?_ | refine blk_alloc ?_ _)); exact BK492.out)) : gb492 ≠ gb518)); have n8_ := Aside0.mk ((by rw [hg]; exact Nat.ne_of_gt (blk_lt (g := gb492) (o := .cells #[.int .i64 4, .string (⟨#[]⟩ : ByteArray), .int .i64 0, .int .i64 0, u493004] 39 (0, 0)) (by (with_reducible repeat (first | refine blk_drewN ?_ _ | refine blk_drew ?_ | refine blk_alloc ?_ _)); exact BK492.out)) : gb518 ≠ gb492)); clear HO_493004; clear HO515; clear BK492; clear HB; have HO_493004 := n0_; have HO515 := n1_; have BK492 := n2_; have HB := n3_; have BK518 := n4_; have GW518 := n5_; have GE518 := n6_; have NB492_518 := n7_; have NB518_492 := n8_; clear n0_ n1_ n2_ n3_ n4_ n5_ n6_ n7_ n8_; clear hb hbox hg; have hnb60 := NB518_492.out; have hnc60 := NB492_518.out; have hcz61_0 : w59.cell? ⟨gb518, 0, none⟩ = some (.int .i64 0) := (blk_cell BK518.out 0).trans rfl; have hcz61_1 : w59.cell? ⟨gb518, 1, none⟩ = some (.string (⟨#[]⟩ : ByteArray)) := (blk_cell BK518.out 1).trans rfl; have hcz61_2 : w59.cell? ⟨gb518, 2, none⟩ = some (.int .i64 0) := (blk_cell BK518.out 2).trans rfl; have hcz61_3 : w59.cell? ⟨gb518, 3, none⟩ = some (.int .i64 0) := (blk_cell BK518.out 3).trans rfl; have hcz61_4 : w59.cell? ⟨gb518, 4, none⟩ = some (.slice none 0 0) := (blk_cell BK518.out 4).trans rfl; have hfz61_0 := blk_frozen BK518.out 0; have hfz61_1 := blk_frozen BK518.out 1; have hfz61_2 := blk_frozen BK518.out 2; have hfz61_3 := blk_frozen BK518.out 3; have hfz61_4 := blk_frozen BK518.out 4; obtain ⟨Ao62, co62, eo62⟩ := Kd.R_slice HO515.out; subst eo62; have hcz63_0 : w59.cell? ⟨gb492, 0, none⟩ = some (.int .i64 4) := (blk_cell BK492.out 0).trans rfl; have hcz63_1 : w59.cell? ⟨gb492, 1, none⟩ = some (.string (⟨#[]⟩ : ByteArray)) := (blk_cell BK492.out 1).trans rfl; have hcz63_2 : w59.cell? ⟨gb492, 2, none⟩ = some (.int .i64 0) := (blk_cell BK492.out 2).trans rfl; have hcz63_3 : w59.cell? ⟨gb492, 3, none⟩ = some (.int .i64 0) := (blk_cell BK492.out 3).trans rfl; have hcz63_4 : w59.cell? ⟨gb492, 4, none⟩ = some (u493004) := (blk_cell BK492.out 4).trans rfl; have hfz63_0 := blk_frozen BK492.out 0; have hfz63_1 := blk_frozen BK492.out 1; have hfz63_2 := blk_frozen BK492.out 2; have hfz63_3 := blk_frozen BK492.out 3; have hfz63_4 := blk_frozen BK492.out 4; obtain ⟨Ao64, co64, eo64⟩ := Kd.R_slice HO_493004.out; subst eo64) | (go_at_call 25; (with_reducible refine (sexp_May.calls 4 (⟨#[]⟩ : ByteArray) 0 0 _ _ x493004_2 true _ ?side1 ?side2 ?side3 A56.out).mono ?_); (case side1 => exact hG.below (by repeat (first | (with_reducible first | exact HB.out | apply below_alloc | apply pw_below_drewN | apply below_drew1 | refine below_set ?_ GE492.out | refine below_set ?_ GE518.out) | exact HB.out))); (case side2 => refine (Kd.R_reads' (e := 39) (base := w.heap.size) (ok := fun k_ => ((k_ ≠ gb492 ∧ some k_ ≠ (.slice Ao62 t513.length co62 : Value).ownBlock) ∧ k_ ≠ gb518)) (n := x493004_2.length) (c := co64) ?_).2.2; exact (by (with_reducible repeat (first | apply Kd.R_alloc | apply Kd.R_drewN | apply Kd.R_drew)); exact (Kd.R_mono (Kd.R_far (p := ⟨gb518, 4, none⟩) (Kd.R_far (p := ⟨gb518, 3, none⟩) (Kd.R_far (p := ⟨gb518, 2, none⟩) (Kd.R_far (p := ⟨gb518, 1, none⟩) (Kd.R_far (p := ⟨gb518, 0, none⟩) (Kd.R_mono HO_493004.out (fun k_ hk => (⟨hk, hk.2⟩ : _ ∧ k_ ≠ gb518))) (fun _ hk => hk.2) (.int .i64 t509)) (fun _ hk => hk.2) (.string t510)) (fun _ hk => hk.2) (.int .i64 t511)) (fun _ hk => hk.2) (.int .i64 t512)) (fun _ hk => hk.2) (.slice Ao62 t513.length co62)) (fun _ h_ => h_.1)))); (case side3 => exact (Kd.R_reads' HO_493004.out).2.1); rintro e w65 ⟨rfl, hb⟩; have n0_ := Aside0.mk (Kd.R_below (by (with_reducible repeat (first | apply Kd.R_alloc | apply Kd.R_drewN | apply Kd.R_drew)); exact (Kd.R_mono (Kd.R_far (p := ⟨gb518, 4, none⟩) (Kd.R_far (p := ⟨gb518, 3, none⟩) (Kd.R_far (p := ⟨gb518, 2, none⟩) (Kd.R_far (p := ⟨gb518, 1, none⟩) (Kd.R_far (p := ⟨gb518, 0, none⟩) (Kd.R_mono HO_493004.out (fun k_ hk => (⟨hk, hk.2⟩ : _ ∧ k_ ≠ gb518))) (fun _ hk => hk.2) (.int .i64 t509)) (fun _ hk => hk.2) (.string t510)) (fun _ hk => hk.2) (.int .i64 t511)) (fun _ hk => hk.2) (.int .i64 t512)) (fun _ hk => hk.2) (.slice Ao62 t513.length co62)) (fun _ h_ => h_.1))) hb); have n1_ := Aside0.mk (Kd.R_below (by (with_reducible repeat (first | apply Kd.R_alloc | apply Kd.R_drewN | apply Kd.R_drew)); exact (Kd.R_mono (Kd.R_far (p := ⟨gb518, 4, none⟩) (Kd.R_far (p := ⟨gb518, 3, none⟩) (Kd.R_far (p := ⟨gb518, 2, none⟩) (Kd.R_far (p := ⟨gb518, 1, none⟩) (Kd.R_far (p := ⟨gb518, 0, none⟩) (Kd.R_mono HO515.out (fun k_ hk => (⟨hk, hk.2⟩ : _ ∧ k_ ≠ gb518))) (fun _ hk => hk.2) (.int .i64 t509)) (fun _ hk => hk.2) (.string t510)) (fun _ hk => hk.2) (.int .i64 t511)) (fun _ hk => hk.2) (.int .i64 t512)) (fun _ hk => hk.2) (.slice Ao62 t513.length co62)) (fun _ h_ => h_.1))) hb); have n2_ := Aside0.mk (blk_below (g := gb492) (o := .cells #[.int .i64 4, .string (⟨#[]⟩ : ByteArray), .int .i64 0, .int .i64 0, .slice Ao64 x493004_2.length co64] 39 (0, 0)) (by (with_reducible repeat (first | refine blk_drewN ?_ _ | refine blk_drew ?_ | refine blk_alloc ?_ _)); refine blk_far ?_ NB492_518.out _; (with_reducible repeat (first | refine blk_drewN ?_ _ | refine blk_drew ?_ | refine blk_alloc ?_ _)); refine blk_far ?_ NB492_518.out _; (with_reducible repeat (first | refine blk_drewN ?_ _ | refine blk_drew ?_ | refine blk_alloc ?_ _)); refine blk_far ?_ NB492_518.out _; (with_reducible repeat (first | refine blk_drewN ?_ _ | refine blk_drew ?_ | refine blk_alloc ?_ _)); refine blk_far ?_ NB492_518.out _; (with_reducible repeat (first | refine blk_drewN ?_ _ | refine blk_drew ?_ | refine blk_alloc ?_ _)); refine blk_far ?_ NB492_518.out _; (with_reducible repeat (first | refine blk_drewN ?_ _ | refine blk_drew ?_ | refine blk_alloc ?_ _)); exact BK492.out) hb); have n3_ := Aside0.mk (blk_below (g := gb518) (o := .cells #[.int .i64 t509, .string t510, .int .i64 t511, .int .i64 t512, .slice Ao62 t513.length co62] 39 (0, 0)) (by (with_reducible repeat (first | refine blk_drewN ?_ _ | refine blk_drew ?_ | refine blk_alloc ?_ _)); refine blk_put (cs := #[.int .i64 t509, .string t510, .int .i64 t511, .int .i64 t512, .slice none 0 0]) ?_ 4 _ rfl; (with_reducible repeat (first | refine blk_drewN ?_ _ | refine blk_drew ?_ | refine blk_alloc ?_ _)); refine blk_put (cs := #[.int .i64 t509, .string t510, .int .i64 t511, .int .i64 0, .slice none 0 0]) ?_ 3 _ rfl; (with_reducible repeat (first | refine blk_drewN ?_ _ | refine blk_drew ?_ | refine blk_alloc ?_ _)); refine blk_put (cs := #[.int .i64 t509, .string t510, .int .i64 0, .int .i64 0, .slice none 0 0]) ?_ 2 _ rfl; (with_reducible repeat (first | refine blk_drewN ?_ _ | refine blk_drew ?_ | refine blk_alloc ?_ _)); refine blk_put (cs := #[.int .i64 t509, .string (⟨#[]⟩ : ByteArray), .int .i64 0, .int .i64 0, .slice none 0 0]) ?_ 1 _ rfl; (with_reducible repeat (first | refine blk_drewN ?_ _ | refine blk_drew ?_ | refine blk_alloc ?_ _)); refine blk_put (cs := #[.int .i64 0, .string (⟨#[]⟩ : ByteArray), .int .i64 0, .int .i64 0, .slice none 0 0]) ?_ 0 _ rfl; (with_reducible repeat (first | refine blk_drewN ?_ _ | refine blk_drew ?_ | refine blk_alloc ?_ _)); exact BK518.out) hb); have n4_ := Aside0.mk (below_step (by repeat (first | (with_reducible first | exact HB.out | apply below_alloc | apply pw_below_drewN | apply below_drew1 | refine below_set ?_ GE492.out | refine below_set ?_ GE518.out) | exact HB.out)) hb); clear HO_493004; clear HO515; clear BK492; clear BK518; clear HB; have HO_493004 := n0_; have HO515 := n1_; have BK492 := n2_; have BK518 := n3_; have HB := n4_; clear n0_ n1_ n2_ n3_ n4_; (try clear hb); (try clear hb2); (try clear hk); (try clear hi)))
                      go_ret
                      exact ⟨by first | rfl | (rw [hv_]; done) | (simp [hv_]; done) | (simp [← hv_]; done) | (simp [] <;> rfl) | (simp [*] <;> rfl), by repeat (first | (with_reducible first | exact HB.out | apply below_alloc | apply pw_below_drewN | apply below_drew1 | refine below_set ?_ GE492.out | refine below_set ?_ GE518.out) | exact HB.out)⟩
                    · replace c57 := Bool.eq_false_iff.mpr c57
                      subst c57
                      have H1 : (some true) = some true := by first | (rw [if_neg (show ¬ (false = true) by decide)] at H; exact H) | rfl
                      clear H
                      have H := H1
                      clear H1
                      clear H
                      go_wp2_with (first | ((with_reducible refine gate_callee (f := 24) rfl ?_); refine goesL_ (some 64) rfl rfl Tryd.func24 (by kernel_rfl) rfl #[.string (x4_2 ++ (⟨#[41]⟩ : ByteArray))] rfl (by (try simp only [List.map_toArray, List.map_cons, List.map_nil]); first | done | rfl | (simp only [List.length_drop, List.length_take]; rfl)) ?_; (with_reducible refine (sexp_Parse.calls (x4_2 ++ (⟨#[41]⟩ : ByteArray)) t509 t510 t511 t512 t513 t516 t517 _ ?side1 A39.out).mono ?_); (case side1 => exact hG.below (by repeat (first | (with_reducible first | exact HB.out | apply below_alloc | apply pw_below_drewN | apply below_drew1 | refine below_set ?_ GE492.out) | exact HB.out))); rintro e w66 ⟨v514, rfl, ho0, hb⟩; refine ⟨_, rfl, ?_⟩; have n0_ := Aside0.mk (Kd.R_elder' (by (with_reducible repeat (first | apply Kd.R_alloc | apply Kd.R_drewN | apply Kd.R_drew)); exact HO_493004.out) (Kd.R_base ho0) hb); have n1_ := Aside0.mk (Kd.R_lower (Kd.R_newB (Kd.R_new' ho0 (Kd.R_lt (by (with_reducible repeat (first | apply Kd.R_alloc | apply Kd.R_drewN | apply Kd.R_drew)); exact HO_493004.out))) (g := gb492) (o := .cells #[.int .i64 4, .string (⟨#[]⟩ : ByteArray), .int .i64 0, .int .i64 0, u493004] 39 (0, 0)) (by (with_reducible repeat (first | refine blk_drewN ?_ _ | refine blk_drew ?_ | refine blk_alloc ?_ _)); exact BK492.out)) (below_size (by repeat (first | (with_reducible first | exact HB.out | apply below_alloc | apply pw_below_drewN | apply below_drew1 | refine below_set ?_ GE492.out) | exact HB.out)))); have n2_ := Aside0.mk (blk_below (g := gb492) (o := .cells #[.int .i64 4, .string (⟨#[]⟩ : ByteArray), .int .i64 0, .int .i64 0, u493004] 39 (0, 0)) (by (with_reducible repeat (first | refine blk_drewN ?_ _ | refine blk_drew ?_ | refine blk_alloc ?_ _)); exact BK492.out) hb); have n3_ := Aside0.mk (below_step (by repeat (first | (with_reducible first | exact HB.out | apply below_alloc | apply pw_below_drewN | apply below_drew1 | refine below_set ?_ GE492.out) | exact HB.out)) hb); clear HO_493004; clear BK492; clear HB; have HO_493004 := n0_; have HO515 := n1_; have BK492 := n2_; have HB := n3_; clear n0_ n1_ n2_ n3_; (try clear hb); (try clear hb2); (try clear hk); (try clear hi); (try clear ho0)) | ((with_reducible refine gate_dst (N := 10) rfl ?_); (try (refine gate_guard (by rfl) ?_; dsimp only)); refine box_event ?hg (N := 10) ?hd (cs := #[.int .i64 0, .string (⟨#[]⟩ : ByteArray), .int .i64 0, .int .i64 0, .slice none 0 0]) (t := 39) ?hr ?_; (case hd => rfl); (case hg => rfl); (case hr => first | (go_simp; done) | (go_simp; rfl)); intro gb518 hg w67 hbox hb; have n0_ := Aside0.mk (Kd.R_below (Kd.R_elderB (by (with_reducible repeat (first | apply Kd.R_alloc | apply Kd.R_drewN | apply Kd.R_drew)); exact HO_493004.out) gb518 (Nat.le_of_eq hg.symm)) hb); have n1_ := Aside0.mk (Kd.R_below (Kd.R_elderB (by (with_reducible repeat (first | apply Kd.R_alloc | apply Kd.R_drewN | apply Kd.R_drew)); exact HO515.out) gb518 (Nat.le_of_eq hg.symm)) hb); have n2_ := Aside0.mk (blk_below (g := gb492) (o := .cells #[.int .i64 4, .string (⟨#[]⟩ : ByteArray), .int .i64 0, .int .i64 0, u493004] 39 (0, 0)) (by (with_reducible repeat (first | refine blk_drewN ?_ _ | refine blk_drew ?_ | refine blk_alloc ?_ _)); exact BK492.out) hb); have n3_ := Aside0.mk (below_step (by repeat (first | (with_reducible first | exact HB.out | apply below_alloc | apply pw_below_drewN | apply below_drew1 | refine below_set ?_ GE492.out) | exact HB.out)) hb); have n4_ := Aside0.mk (hbox); have n5_ := Aside0.mk ((by rw [hg]; exact (below_size (by repeat (first | (with_reducible first | exact HB.out | apply below_alloc | apply pw_below_drewN | apply below_drew1 | refine below_set ?_ GE492.out) | exact HB.out))) : w.heap.size ≤ gb518)); have n6_ := Aside0.mk ((by rw [hg]; exact (below_size (by repeat (first | (with_reducible first | exact HB.out | apply below_alloc | apply pw_below_drewN | apply below_drew1 | refine below_set ?_ GE492.out) | exact HB.out))) : w.heap.size ≤ gb518)); have n7_ := Aside0.mk ((by rw [hg]; exact Nat.ne_of_lt (blk_lt (g := gb492) (o := .cells #[.int .i64 4, .string (⟨#[]⟩ : ByteArray), .int .i64 0, .int .i64 0, u493004] 39 (0, 0)) (by (with_reducible repeat (first | refine blk_drewN ?_ _ | refine blk_drew ?_ | refine blk_alloc ?_ _)); exact BK492.out)) : gb492 ≠ gb518)); have n8_ := Aside0.mk ((by rw [hg]; exact Nat.ne_of_gt (blk_lt (g := gb492) (o := .cells #[.int .i64 4, .string (⟨#[]⟩ : ByteArray), .int .i64 0, .int .i64 0, u493004] 39 (0, 0)) (by (with_reducible repeat (first | refine blk_drewN ?_ _ | refine blk_drew ?_ | refine blk_alloc ?_ _)); exact BK492.out)) : gb518 ≠ gb492)); clear HO_493004; clear HO515; clear BK492; clear HB; have HO_493004 := n0_; have HO515 := n1_; have BK492 := n2_; have HB := n3_; have BK518 := n4_; have GW518 := n5_; have GE518 := n6_; have NB492_518 := n7_; have NB518_492 := n8_; clear n0_ n1_ n2_ n3_ n4_ n5_ n6_ n7_ n8_; clear hb hbox hg; have hnb68 := NB518_492.out; have hnc68 := NB492_518.out; have hcz69_0 : w67.cell? ⟨gb518, 0, none⟩ = some (.int .i64 0) := (blk_cell BK518.out 0).trans rfl; have hcz69_1 : w67.cell? ⟨gb518, 1, none⟩ = some (.string (⟨#[]⟩ : ByteArray)) := (blk_cell BK518.out 1).trans rfl; have hcz69_2 : w67.cell? ⟨gb518, 2, none⟩ = some (.int .i64 0) := (blk_cell BK518.out 2).trans rfl; have hcz69_3 : w67.cell? ⟨gb518, 3, none⟩ = some (.int .i64 0) := (blk_cell BK518.out 3).trans rfl; have hcz69_4 : w67.cell? ⟨gb518, 4, none⟩ = some (.slice none 0 0) := (blk_cell BK518.out 4).trans rfl; have hfz69_0 := blk_frozen BK518.out 0; have hfz69_1 := blk_frozen BK518.out 1; have hfz69_2 := blk_frozen BK518.out 2; have hfz69_3 := blk_frozen BK518.out 3; have hfz69_4 := blk_frozen BK518.out 4; obtain ⟨Ao70, co70, eo70⟩ := Kd.R_slice HO515.out; subst eo70; have hcz71_0 : w67.cell? ⟨gb492, 0, none⟩ = some (.int .i64 4) := (blk_cell BK492.out 0).trans rfl; have hcz71_1 : w67.cell? ⟨gb492, 1, none⟩ = some (.string (⟨#[]⟩ : ByteArray)) := (blk_cell BK492.out 1).trans rfl; have hcz71_2 : w67.cell? ⟨gb492, 2, none⟩ = some (.int .i64 0) := (blk_cell BK492.out 2).trans rfl; have hcz71_3 : w67.cell? ⟨gb492, 3, none⟩ = some (.int .i64 0) := (blk_cell BK492.out 3).trans rfl; have hcz71_4 : w67.cell? ⟨gb492, 4, none⟩ = some (u493004) := (blk_cell BK492.out 4).trans rfl; have hfz71_0 := blk_frozen BK492.out 0; have hfz71_1 := blk_frozen BK492.out 1; have hfz71_2 := blk_frozen BK492.out 2; have hfz71_3 := blk_frozen BK492.out 3; have hfz71_4 := blk_frozen BK492.out 4; obtain ⟨Ao72, co72, eo72⟩ := Kd.R_slice HO_493004.out; subst eo72) | (go_at_call 25; (with_reducible refine (sexp_May.calls 4 (⟨#[]⟩ : ByteArray) 0 0 _ _ x493004_2 false _ ?side1 ?side2 ?side3 A56.out).mono ?_); (case side1 => exact hG.below (by repeat (first | (with_reducible first | exact HB.out | apply below_alloc | apply pw_below_drewN | apply below_drew1 | refine below_set ?_ GE492.out | refine below_set ?_ GE518.out) | exact HB.out))); (case side2 => refine (Kd.R_reads' (e := 39) (base := w.heap.size) (ok := fun k_ => ((k_ ≠ gb492 ∧ some k_ ≠ (.slice Ao70 t513.length co70 : Value).ownBlock) ∧ k_ ≠ gb518)) (n := x493004_2.length) (c := co72) ?_).2.2; exact (by (with_reducible repeat (first | apply Kd.R_alloc | apply Kd.R_drewN | apply Kd.R_drew)); exact (Kd.R_mono (Kd.R_far (p := ⟨gb518, 4, none⟩) (Kd.R_far (p := ⟨gb518, 3, none⟩) (Kd.R_far (p := ⟨gb518, 2, none⟩) (Kd.R_far (p := ⟨gb518, 1, none⟩) (Kd.R_far (p := ⟨gb518, 0, none⟩) (Kd.R_mono HO_493004.out (fun k_ hk => (⟨hk, hk.2⟩ : _ ∧ k_ ≠ gb518))) (fun _ hk => hk.2) (.int .i64 t509)) (fun _ hk => hk.2) (.string t510)) (fun _ hk => hk.2) (.int .i64 t511)) (fun _ hk => hk.2) (.int .i64 t512)) (fun _ hk => hk.2) (.slice Ao70 t513.length co70)) (fun _ h_ => h_.1)))); (case side3 => exact (Kd.R_reads' HO_493004.out).2.1); rintro e w73 ⟨rfl, hb⟩; have n0_ := Aside0.mk (Kd.R_below (by (with_reducible repeat (first | apply Kd.R_alloc | apply Kd.R_drewN | apply Kd.R_drew)); exact (Kd.R_mono (Kd.R_far (p := ⟨gb518, 4, none⟩) (Kd.R_far (p := ⟨gb518, 3, none⟩) (Kd.R_far (p := ⟨gb518, 2, none⟩) (Kd.R_far (p := ⟨gb518, 1, none⟩) (Kd.R_far (p := ⟨gb518, 0, none⟩) (Kd.R_mono HO_493004.out (fun k_ hk => (⟨hk, hk.2⟩ : _ ∧ k_ ≠ gb518))) (fun _ hk => hk.2) (.int .i64 t509)) (fun _ hk => hk.2) (.string t510)) (fun _ hk => hk.2) (.int .i64 t511)) (fun _ hk => hk.2) (.int .i64 t512)) (fun _ hk => hk.2) (.slice Ao70 t513.length co70)) (fun _ h_ => h_.1))) hb); have n1_ := Aside0.mk (Kd.R_below (by (with_reducible repeat (first | apply Kd.R_alloc | apply Kd.R_drewN | apply Kd.R_drew)); exact (Kd.R_mono (Kd.R_far (p := ⟨gb518, 4, none⟩) (Kd.R_far (p := ⟨gb518, 3, none⟩) (Kd.R_far (p := ⟨gb518, 2, none⟩) (Kd.R_far (p := ⟨gb518, 1, none⟩) (Kd.R_far (p := ⟨gb518, 0, none⟩) (Kd.R_mono HO515.out (fun k_ hk => (⟨hk, hk.2⟩ : _ ∧ k_ ≠ gb518))) (fun _ hk => hk.2) (.int .i64 t509)) (fun _ hk => hk.2) (.string t510)) (fun _ hk => hk.2) (.int .i64 t511)) (fun _ hk => hk.2) (.int .i64 t512)) (fun _ hk => hk.2) (.slice Ao70 t513.length co70)) (fun _ h_ => h_.1))) hb); have n2_ := Aside0.mk (blk_below (g := gb492) (o := .cells #[.int .i64 4, .string (⟨#[]⟩ : ByteArray), .int .i64 0, .int .i64 0, .slice Ao72 x493004_2.length co72] 39 (0, 0)) (by (with_reducible repeat (first | refine blk_drewN ?_ _ | refine blk_drew ?_ | refine blk_alloc ?_ _)); refine blk_far ?_ NB492_518.out _; (with_reducible repeat (first | refine blk_drewN ?_ _ | refine blk_drew ?_ | refine blk_alloc ?_ _)); refine blk_far ?_ NB492_518.out _; (with_reducible repeat (first | refine blk_drewN ?_ _ | refine blk_drew ?_ | refine blk_alloc ?_ _)); refine blk_far ?_ NB492_518.out _; (with_reducible repeat (first | refine blk_drewN ?_ _ | refine blk_drew ?_ | refine blk_alloc ?_ _)); refine blk_far ?_ NB492_518.out _; (with_reducible repeat (first | refine blk_drewN ?_ _ | refine blk_drew ?_ | refine blk_alloc ?_ _)); refine blk_far ?_ NB492_518.out _; (with_reducible repeat (first | refine blk_drewN ?_ _ | refine blk_drew ?_ | refine blk_alloc ?_ _)); exact BK492.out) hb); have n3_ := Aside0.mk (blk_below (g := gb518) (o := .cells #[.int .i64 t509, .string t510, .int .i64 t511, .int .i64 t512, .slice Ao70 t513.length co70] 39 (0, 0)) (by (with_reducible repeat (first | refine blk_drewN ?_ _ | refine blk_drew ?_ | refine blk_alloc ?_ _)); refine blk_put (cs := #[.int .i64 t509, .string t510, .int .i64 t511, .int .i64 t512, .slice none 0 0]) ?_ 4 _ rfl; (with_reducible repeat (first | refine blk_drewN ?_ _ | refine blk_drew ?_ | refine blk_alloc ?_ _)); refine blk_put (cs := #[.int .i64 t509, .string t510, .int .i64 t511, .int .i64 0, .slice none 0 0]) ?_ 3 _ rfl; (with_reducible repeat (first | refine blk_drewN ?_ _ | refine blk_drew ?_ | refine blk_alloc ?_ _)); refine blk_put (cs := #[.int .i64 t509, .string t510, .int .i64 0, .int .i64 0, .slice none 0 0]) ?_ 2 _ rfl; (with_reducible repeat (first | refine blk_drewN ?_ _ | refine blk_drew ?_ | refine blk_alloc ?_ _)); refine blk_put (cs := #[.int .i64 t509, .string (⟨#[]⟩ : ByteArray), .int .i64 0, .int .i64 0, .slice none 0 0]) ?_ 1 _ rfl; (with_reducible repeat (first | refine blk_drewN ?_ _ | refine blk_drew ?_ | refine blk_alloc ?_ _)); refine blk_put (cs := #[.int .i64 0, .string (⟨#[]⟩ : ByteArray), .int .i64 0, .int .i64 0, .slice none 0 0]) ?_ 0 _ rfl; (with_reducible repeat (first | refine blk_drewN ?_ _ | refine blk_drew ?_ | refine blk_alloc ?_ _)); exact BK518.out) hb); have n4_ := Aside0.mk (below_step (by repeat (first | (with_reducible first | exact HB.out | apply below_alloc | apply pw_below_drewN | apply below_drew1 | refine below_set ?_ GE492.out | refine below_set ?_ GE518.out) | exact HB.out)) hb); clear HO_493004; clear HO515; clear BK492; clear BK518; clear HB; have HO_493004 := n0_; have HO515 := n1_; have BK492 := n2_; have BK518 := n3_; have HB := n4_; clear n0_ n1_ n2_ n3_ n4_; (try clear hb); (try clear hb2); (try clear hk); (try clear hi)))
                      go_ret
                      exact ⟨by first | rfl | (simp [] <;> rfl) | (simp [*] <;> rfl), by repeat (first | (with_reducible first | exact HB.out | apply below_alloc | apply pw_below_drewN | apply below_drew1 | refine below_set ?_ GE492.out | refine below_set ?_ GE518.out) | exact HB.out)⟩
                  · rw [if_neg c55] at H
                    have c55b0 : (t517 == 2) = false := beq_eq_false_iff_ne.mpr c55
                    have c55b1 : (t517 != 2) = true := bne_iff_ne.mpr c55
                    exact absurd (Option.some.inj H) Bool.false_ne_true
              · rw [if_neg c38] at H
                exact absurd H (by simp)
end Go.Proofs.YtngcojabofkbjaaDoor.P
