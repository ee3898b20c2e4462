/- Part 3 of what the law SexpList leans on: contracts of the functions that it reaches, and plain lemmas; printed walks and words (by the kit's print, through wip/mp.py) and the session's own texts, one behind the other, what is not used left out (wip/prune.py). -/
import Derived.Maps.Own
import Derived.ChangeMaps4
import Derived.RangeFuncNested
import Derived.RangeFuncBound
import Derived.RangeFuncCalls
import Derived.RangeFuncLeaves
import Derived.Shelf.Abstract
import Derived.Shelf.RegionOpen
import Derived.OwnWalkIn
import Derived.TacticsInMore
import Derived.LoopNIn
import Derived.LoopIn
import Derived.Lib.ItoaMem
import Derived.Lib.Strings
import Derived.Lib.Slices
import Derived.Lib.Walk
import Derived.Lib.Builder
import Derived.Lib.AppendStr
import Derived.Lib.UnsafeStr
import Derived.Lib.MakeNoZero
import Derived.Laws.Externs
import Derived.Stop.RegionWithIn
import Derived.RangeFuncBox
import Derived.Maps.AppendAt
import Derived.StillTailTactics
import Derived.Test.YtngcojabofkbjaaDoorMSexpList1
import Derived.Test.YtngcojabofkbjaaDoorMSexpList2
namespace Go.Proofs.YtngcojabofkbjaaDoor.P
open Go.RowKit Go.Proofs.YtngcojabofkbjaaDoorW.PrintWords Go.Proofs.YtngcojabofkbjaaDoorW.PrintLast Go.Proofs.YtngcojabofkbjaaDoorW.PrintMore
set_option linter.unusedVariables false
set_option linter.unusedSimpArgs false
abbrev TokR := Int × ByteArray × Int × Int × Bool × ByteArray × Int
def tokOne (k : Nat) (q : Int) (x : ByteArray) (at0 : Int) : Option TokR :=
  if q = 0 then token_reader_name.f x at0 else if q = 1 then token_reader_num.f x at0 else if q = 2 then token_reader_str.f k x at0 else token_reader_one.f x at0
def tokLoop : Nat → ByteArray → ByteArray → List S29 → Int → Option (List S29 × Int × Int)
  | 0, _, _, _, _ => none
  | k + 1, s, x, acc, at0 => if at0 < (s.size : Int) then (if 0 ≤ at0 then (if ofK (bt s at0) = 4 then some ([], at0, 4)
      else (tokOne k (ofK (bt s at0)) x at0).bind fun r => if r.2.2.2.2.1 = false then some ([], at0, 4)
        else if acc.length = 1000 then some ([], at0, 2)
        else (token_reader_skip.f k r.2.2.2.2.2.1 r.2.2.2.2.2.2).bind fun z => tokLoop k s z.1 (acc ++ [⟨r.1, r.2.1, r.2.2.1, at0⟩]) z.2) else none)
    else some (acc, s.size, 0)
def tokAll (k : Nat) (s : ByteArray) : Option (List S29 × Int × Int) :=
  if (s.size : Int) > 5000 then some ([], 0, 2) else (token_reader_skip.f k s 0).bind fun z => tokLoop k s z.1 [] z.2
theorem chkInt (b : Bool) (q : Int) (w : World) : (Instr.checkKey b 10000 3 (.int .i64 q)).run Tryd.prog w = .ok () w := by
  have h3 := run_underlying (w := w) Tryd.underlying3
  show (Instr.checkKey b (9999 + 1) 3 (.int .i64 q)).run Tryd.prog w = .ok () w
  unfold Instr.checkKey
  simp [h3]
def beginM : Obj := .map #[⟨.int .i64 0, .func (.func 33) #[] #[], 0⟩, ⟨.int .i64 1, .func (.func 34) #[] #[], 1⟩, ⟨.int .i64 2, .func (.func 35) #[] #[], 2⟩, ⟨.int .i64 3, .func (.func 36) #[] #[], 3⟩] 4
def beginF (q : Int) : Nat := if q = 0 then 33 else if q = 1 then 34 else if q = 2 then 35 else 36
theorem lookup_yes (w : World) (r : Nat) (q : Int) (h0 : 0 ≤ q) (h3 : q ≤ 3) (hb : w.heap[r]? = some beginM) :
    Sem.run Tryd.prog (Instr.lookup 53 (.map (some r)) (.int .i64 q) true) w = .ok (.tuple #[.func (.func (beginF q)) #[] #[], .bool true]) w := by
  have h53 := run_underlying (w := w) Tryd.underlying53
  have hi := run_underlying (w := w) Tryd.underlying3
  unfold beginM at hb
  obtain rfl | rfl | rfl | rfl : q = 0 ∨ q = 1 ∨ q = 2 ∨ q = 3 := by omega
  all_goals simp [Instr.lookup, chkInt, Instr.findKey, Instr.findNow, Instr.sameNow, h53, hi, MapKept.run_getObj_map hb, Result.andThen, beginF]
theorem lookup_no (w : World) (r : Nat) (hb : w.heap[r]? = some beginM) :
    Sem.run Tryd.prog (Instr.lookup 53 (.map (some r)) (.int .i64 4) true) w = .ok (.tuple #[.nilFunc, .bool false]) w := by
  have h53 := run_underlying (w := w) Tryd.underlying53
  have hi := run_underlying (w := w) Tryd.underlying3
  have hz : (zeroValue 50).run Tryd.prog w = .ok .nilFunc w := by kernel_rfl
  unfold beginM at hb
  simp [Instr.lookup, chkInt, Instr.findKey, Instr.findNow, Instr.sameNow, h53, hi, MapKept.run_getObj_map hb, Result.andThen, hz]
theorem set_push {α : Type} (a : Array α) (x y : α) : (a.push x).setIfInBounds a.size y = a.push y := by
  apply Array.ext
  · simp
  · intro i h1 h2
    rw [Array.getElem_setIfInBounds]
    · split
      · subst_vars; simp
      · rename_i hne
        have hlt : i < a.size := by simp at h2; omega
        rw [Array.getElem_push_lt hlt, Array.getElem_push_lt hlt]
    · simp at h2 ⊢; omega
theorem heap_set_new (w : World) (o o' : Obj) : ChangeMaps.setBlock (w.alloc o) w.heap.size o' = w.alloc o' := by
  unfold ChangeMaps.setBlock
  have e : (w.alloc o).heap.setIfInBounds w.heap.size o' = (w.alloc o').heap := set_push w.heap o o'
  rw [e]
  rfl
theorem set_0 (w : World) (v : Value) : Sem.run Tryd.prog (Instr.mapUpdate 53 (.map (some w.heap.size)) (.int .i64 0) v) (w.alloc (.map #[] 0)) = .ok () (w.alloc (.map #[⟨.int .i64 0, v, 0⟩] 1)) := by
  have hb : (w.alloc (.map #[] 0)).heap[w.heap.size]? = some (.map #[] 0) := heap_alloc_new w _
  have h53 := run_underlying (w := w.alloc (.map #[] 0)) Tryd.underlying53
  have hi := run_underlying (w := w.alloc (.map #[] 0)) Tryd.underlying3
  simp [Instr.mapUpdate, chkInt, Instr.findKey, Instr.findNow, Instr.sameNow, h53, hi, MapKept.run_getObj_map hb, MapKept.run_setObj_map _ hb, Result.andThen]
  exact heap_set_new w (.map #[] 0) _
theorem set_1 (w : World) (v0 v : Value) : Sem.run Tryd.prog (Instr.mapUpdate 53 (.map (some w.heap.size)) (.int .i64 1) v) (w.alloc (.map #[⟨.int .i64 0, v0, 0⟩] 1)) = .ok () (w.alloc (.map #[⟨.int .i64 0, v0, 0⟩, ⟨.int .i64 1, v, 1⟩] 2)) := by
  have hb : (w.alloc (.map #[⟨.int .i64 0, v0, 0⟩] 1)).heap[w.heap.size]? = some (.map #[⟨.int .i64 0, v0, 0⟩] 1) := heap_alloc_new w _
  have h53 := run_underlying (w := w.alloc (.map #[⟨.int .i64 0, v0, 0⟩] 1)) Tryd.underlying53
  have hi := run_underlying (w := w.alloc (.map #[⟨.int .i64 0, v0, 0⟩] 1)) Tryd.underlying3
  simp [Instr.mapUpdate, chkInt, Instr.findKey, Instr.findNow, Instr.sameNow, h53, hi, MapKept.run_getObj_map hb, MapKept.run_setObj_map _ hb, Result.andThen]
  exact heap_set_new w (.map #[⟨.int .i64 0, v0, 0⟩] 1) _
theorem set_2 (w : World) (v0 v1 v : Value) : Sem.run Tryd.prog (Instr.mapUpdate 53 (.map (some w.heap.size)) (.int .i64 2) v) (w.alloc (.map #[⟨.int .i64 0, v0, 0⟩, ⟨.int .i64 1, v1, 1⟩] 2)) = .ok () (w.alloc (.map #[⟨.int .i64 0, v0, 0⟩, ⟨.int .i64 1, v1, 1⟩, ⟨.int .i64 2, v, 2⟩] 3)) := by
  have hb : (w.alloc (.map #[⟨.int .i64 0, v0, 0⟩, ⟨.int .i64 1, v1, 1⟩] 2)).heap[w.heap.size]? = some (.map #[⟨.int .i64 0, v0, 0⟩, ⟨.int .i64 1, v1, 1⟩] 2) := heap_alloc_new w _
  have h53 := run_underlying (w := w.alloc (.map #[⟨.int .i64 0, v0, 0⟩, ⟨.int .i64 1, v1, 1⟩] 2)) Tryd.underlying53
  have hi := run_underlying (w := w.alloc (.map #[⟨.int .i64 0, v0, 0⟩, ⟨.int .i64 1, v1, 1⟩] 2)) Tryd.underlying3
  simp [Instr.mapUpdate, chkInt, Instr.findKey, Instr.findNow, Instr.sameNow, h53, hi, MapKept.run_getObj_map hb, MapKept.run_setObj_map _ hb, Result.andThen]
  exact heap_set_new w (.map #[⟨.int .i64 0, v0, 0⟩, ⟨.int .i64 1, v1, 1⟩] 2) _
theorem set_3 (w : World) (v0 v1 v2 v : Value) : Sem.run Tryd.prog (Instr.mapUpdate 53 (.map (some w.heap.size)) (.int .i64 3) v) (w.alloc (.map #[⟨.int .i64 0, v0, 0⟩, ⟨.int .i64 1, v1, 1⟩, ⟨.int .i64 2, v2, 2⟩] 3)) = .ok () (w.alloc (.map #[⟨.int .i64 0, v0, 0⟩, ⟨.int .i64 1, v1, 1⟩, ⟨.int .i64 2, v2, 2⟩, ⟨.int .i64 3, v, 3⟩] 4)) := by
  have hb : (w.alloc (.map #[⟨.int .i64 0, v0, 0⟩, ⟨.int .i64 1, v1, 1⟩, ⟨.int .i64 2, v2, 2⟩] 3)).heap[w.heap.size]? = some (.map #[⟨.int .i64 0, v0, 0⟩, ⟨.int .i64 1, v1, 1⟩, ⟨.int .i64 2, v2, 2⟩] 3) := heap_alloc_new w _
  have h53 := run_underlying (w := w.alloc (.map #[⟨.int .i64 0, v0, 0⟩, ⟨.int .i64 1, v1, 1⟩, ⟨.int .i64 2, v2, 2⟩] 3)) Tryd.underlying53
  have hi := run_underlying (w := w.alloc (.map #[⟨.int .i64 0, v0, 0⟩, ⟨.int .i64 1, v1, 1⟩, ⟨.int .i64 2, v2, 2⟩] 3)) Tryd.underlying3
  simp [Instr.mapUpdate, chkInt, Instr.findKey, Instr.findNow, Instr.sameNow, h53, hi, MapKept.run_getObj_map hb, MapKept.run_setObj_map _ hb, Result.andThen]
  exact heap_set_new w (.map #[⟨.int .i64 0, v0, 0⟩, ⟨.int .i64 1, v1, 1⟩, ⟨.int .i64 2, v2, 2⟩] 3) _
theorem own_ne_map {W : World} {base n size : Nat} {e : TypeId} {v : Value} {xs : List Value} (h : W.ownsRow base e size v n xs) {m c : Nat} {es : Array MapEntry} (hm : W.heap[m]? = some (.map es c)) : some m ≠ v.ownBlock := by
  rcases h.2 with ⟨hv, _⟩ | ⟨g, cap, cur, hv, _, hc, _⟩
  · subst hv; simp [Value.ownBlock]
  · subst hv
    intro e
    simp only [Value.ownBlock, Option.some.injEq] at e
    subst e
    rw [hc] at hm
    cases hm
theorem R_ne_map {α : Type} {d : Kd α} {e : TypeId} {W : World} {base : Nat} {ok : Nat → Prop} {v : Value} {xs : List α} (h : d.R e W base ok v xs) {m c : Nat} {es : Array MapEntry} (hm : W.heap[m]? = some (.map es c)) : some m ≠ v.ownBlock := by
  obtain ⟨h0, inner, hown, hr⟩ := h
  exact own_ne_map hown hm
theorem begin_ne {α : Type} {d : Kd α} {e : TypeId} {W : World} {base : Nat} {ok : Nat → Prop} {v : Value} {xs : List α} (h : d.R e W base ok v xs) {m : Nat} (hm : W.heap[m]? = some beginM) : some m ≠ v.ownBlock := R_ne_map h hm
theorem begin_far {w : World} {m : Nat} {p : Addr} (h : w.heap[m]? = some beginM) (hne : m ≠ p.block) (u : Value) : (w.setCell p u).heap[m]? = some beginM := (Below.heap_setCell w p u m hne).trans h
theorem tokOne_calls (k : Nat) (q : Int) (h0 : 0 ≤ q) (h3 : q ≤ 3) (g : Nat) (x : ByteArray) (at0 : Int) (a b c : Int) (t : ByteArray) (ok : Bool) (x' : ByteArray) (at' : Int) (w0 W : World) (hI : IsS55 w0 W g x at0) (hB : Below w0.heap.size w0 W) (hG : GInv w0) (h : tokOne k q x at0 = some (a, t, b, c, ok, x', at')) :
    Calls Tryd.prog (beginF q) #[.pointer (some ⟨g, 0, none⟩)] W fun e w' => e = .returned (.tuple #[.agg #[.int .i64 a, .string t, .int .i64 b, .int .i64 c], .bool ok]) ∧ IsS55 w0 w' g x' at' ∧ Below w0.heap.size w0 w' ∧ KeepBut W w' g none := by
  obtain rfl | rfl | rfl | rfl : q = 0 ∨ q = 1 ∨ q = 2 ∨ q = 3 := by omega
  · exact token_reader_name.calls g x at0 a t b c ok x' at' w0 W hI hB h
  · exact token_reader_num.calls g x at0 a t b c ok x' at' w0 W hI hB hG h
  · exact token_reader_str.calls k g x at0 a t b c ok x' at' w0 W hI hB h
  · exact token_reader_one.calls g x at0 a t b c ok x' at' w0 W hI hB h
theorem begin_enter (q : Int) (h0 : 0 ≤ q) (h3 : q ≤ 3) (args : Array Value) (w : World) : (callFunc (beginF q) args).run Tryd.prog w = .ok (.enter (beginF q) args) w := by
  obtain rfl | rfl | rfl | rfl : q = 0 ∨ q = 1 ∨ q = 2 ∨ q = 3 := by omega
  · exact run_enter Tryd.func33 (by kernel_rfl) (by kernel_rfl) _ _
  · exact run_enter Tryd.func34 (by kernel_rfl) (by kernel_rfl) _ _
  · exact run_enter Tryd.func35 (by kernel_rfl) (by kernel_rfl) _ _
  · exact run_enter Tryd.func36 (by kernel_rfl) (by kernel_rfl) _ _
theorem ofK_range (c : Int) : 0 ≤ ofK c ∧ ofK c ≤ 4 := by
  unfold ofK
  repeat' split
  all_goals omega
set_option maxHeartbeats 1600000 in
set_option maxRecDepth 100000 in
theorem tokAll_walk (k : Nat) (a0 : ByteArray) (r1 : List S29) (r2 r3 : Int) (w : World) (hG : GInv w) (h : tokAll k a0 = some (r1, r2, r3)) :
    Calls Tryd.prog 16 #[.string a0] w fun e w' => ∃ v0_ : Value, e = .returned (.tuple #[v0_, .int .i64 r2, .int .i64 r3]) ∧ Kd.R k29 29 w' w.heap.size (fun _ => True) v0_ r1 ∧ Below w.heap.size w w' := by
  unfold tokAll at h
  split at h
  · rename_i hbig
    simp only [Option.some.injEq, Prod.mk.injEq] at h
    obtain ⟨rfl, rfl, rfl⟩ := h
    have b1 : decide (5000 < (a0.size : Int)) = true := decide_eq_true hbig
    have b2 : decide (5000 < a0.size) = true := decide_eq_true (by omega)
    clear hbig
    go_enter Tryd.func16, Tryd.ntmps16
    go_wp2
    go_ret3
    exact ⟨_, rfl, Kd.R_nil _ _ _ _ _, Below.refl _ _⟩
  · rename_i hbig
    have b1 : decide (5000 < (a0.size : Int)) = false := decide_eq_false hbig
    have b2 : decide (5000 < a0.size) = false := decide_eq_false (by omega)
    clear hbig
    obtain ⟨⟨x, at0⟩, A0, h⟩ := Option.bind_eq_some_iff.mp h
    have AS := Aside0.mk A0
    have AL := Aside0.mk h
    clear A0 h
    go_enter Tryd.func16, Tryd.ntmps16
    have mk := fun W => @run_makeMap Tryd.prog W
    have s0 := set_0 w
    have s1 := set_1 w
    have s2 := set_2 w
    have s3 := set_3 w
    have HM := Aside0.mk (heap_alloc_new w beginM)
    have HB := Aside0.mk (below_alloc (Below.refl w.heap.size w) beginM)
    have hsz : (w.alloc beginM).heap.size = w.heap.size + 1 := by simp
    have HI := Aside0.mk (IsS55.new w (w.alloc beginM) a0 0 HB.out)
    have HM2 := Aside0.mk (((below_alloc (Below.refl (w.alloc beginM).heap.size (w.alloc beginM)) (.cells #[.string a0, .int .i64 0] 55)).block w.heap.size (by rw [hsz]; omega)).trans HM.out)
    have HB2 := Aside0.mk (below_alloc HB.out (.cells #[.string a0, .int .i64 0] 55))
    rw [hsz] at HI
    clear HM HB hsz
    have hgm : w.heap.size + 1 ≠ w.heap.size := by omega
    go_wp2_with (go_at_call 37; refine (token_reader_skip.calls k (w.heap.size + 1) a0 0 x at0 w _ HI.out HB2.out AS.out).mono ?_; rintro e w1 ⟨rfl, hi, hb, hk⟩; have n0_ := Aside0.mk (KeepBut.blk hk HM2.out (Ne.symm hgm) (by simp)); clear HM2 HB2 HI AS hk; have HM := n0_; have HB := Aside0.mk hb; have HI := Aside0.mk hi; clear n0_ hb hi)
    clear mk s0 s1 s2 s3
    generalize w.heap.size + 1 = g at *
    go_loopg [7] k (fun kq v7 W => ∃ (x : ByteArray) (acc : List S29) (p : Int), Aside0 (tokLoop kq a0 x acc p = some (r1, r2, r3)) ∧ Aside0 (Kd.R k29 29 W w.heap.size (fun _ => True) v7 acc) ∧ Aside0 (IsS55 w W g x p) ∧ Aside0 (W.heap[w.heap.size]? = some beginM) ∧ Aside0 (Below w.heap.size w W) ∧ Aside0 (acc.length ≤ 1000))
    case atStart => exact ⟨x, [], at0, AL, ⟨Kd.R_nil _ _ _ _ _⟩, HI, HM, HB, ⟨by simp⟩⟩
    case round =>
      clear AL HI HM HB
      obtain ⟨x, acc, p, HA, HO, HI, HM, HB, HL⟩ := hrel
      cases gk with
      | zero => exact absurd HA.out (by simp [tokLoop])
      | succ k1 =>
        have H := HA.out
        clear HA
        simp only [tokLoop] at H
        have c0 := cellS55_0 HI.out.1
        have c1 := cellS55_1 HI.out.1
        by_cases hlt : p < (a0.size : Int)
        · rw [if_pos hlt] at H
          by_cases hp0 : 0 ≤ p
          · rw [if_pos hp0] at H
            obtain ⟨n, rfl⟩ := Int.eq_ofNat_of_zero_le hp0
            have hn : n < a0.size := by omega
            have d1 : decide ((n : Int) < (a0.size : Int)) = true := decide_eq_true hlt
            have d2 : decide (n < a0.size) = true := decide_eq_true hn
            have hbt : bt a0 n = (a0[n].toNat : Int) := by simp [bt, hn]
            rw [hbt] at H
            have hq := ofK_range (a0[n].toNat : Int)
            have HQ := Aside0.mk (fun W => token_of.calls 5 (a0[n].toNat : Int) _ W (token_of_eq 5 (by omega) _))
            generalize ofK (a0[n].toNat : Int) = q at *
            clear hbt hlt hp0
            by_cases hq4 : q = 4
            · subst hq4
              rw [if_pos rfl] at H
              simp only [Option.some.injEq, Prod.mk.injEq] at H
              obtain ⟨rfl, rfl, rfl⟩ := H
              have hlk : ∀ m, Sem.run Tryd.prog (Instr.lookup 53 (.map (some w.heap.size)) (.int .i64 4) true) (wr.drewN m) = .ok (.tuple #[.nilFunc, .bool false]) (wr.drewN m) := fun m => lookup_no _ _ HM.out
              clear hq
              go_wp2_with (go_at_call 38; refine (HQ.out _).mono ?_; rintro e w2 ⟨rfl, ⟨nd, rfl⟩⟩)
              go_ret3
              exact ⟨_, rfl, Kd.R_nil _ _ _ _ _, (by repeat (first | (with_reducible first | exact HB.out | apply below_alloc | apply pw_below_drewN | apply below_drew1) | exact HB.out))⟩
            · rw [if_neg hq4] at H
              have hlk : ∀ m, Sem.run Tryd.prog (Instr.lookup 53 (.map (some w.heap.size)) (.int .i64 q) true) (wr.drewN m) = .ok (.tuple #[.func (.func (beginF q)) #[] #[], .bool true]) (wr.drewN m) := fun m => lookup_yes _ _ q hq.1 (by omega) HM.out
              have hcf := fun args W => begin_enter q hq.1 (by omega) args W
              obtain ⟨⟨ka, ta, na, ca, ok, x', p'⟩, A1, H⟩ := Option.bind_eq_some_iff.mp H
              have HC := Aside0.mk (fun W hI hB => tokOne_calls k1 q hq.1 (by omega) g x n ka na ca ta ok x' p' w W hI hB hG A1)
              generalize beginF q = F at *
              clear hq hq4 A1
              have HH := Aside0.mk H
              clear H
              go_wp2_with (go_at_call 38; refine (HQ.out _).mono ?_; rintro e w2 ⟨rfl, ⟨nd, rfl⟩⟩)
              have HI1 := Aside0.mk (show IsS55 w (wr.drewN nd) g x n from HI.out)
              have HM1 := Aside0.mk (show (wr.drewN nd).heap[w.heap.size]? = some beginM from HM.out)
              have HB1 := Aside0.mk (show Below w.heap.size w (wr.drewN nd) from (by repeat (first | (with_reducible first | exact HB.out | apply below_alloc | apply pw_below_drewN | apply below_drew1) | exact HB.out)))
              have HO1 := Aside0.mk (show Kd.R k29 29 (wr.drewN nd) w.heap.size (fun _ => True) u7 acc from by (with_reducible repeat (first | apply Kd.R_alloc | apply Kd.R_drewN | apply Kd.R_drew)); exact HO.out)
              clear HI HM HB HO c0 c1 hlk hcf HQ
              refine (HC.out _ HI1.out HB1.out).mono ?_
              rintro e w3 ⟨rfl, hi, hb, hk⟩
              have HO := Aside0.mk (Kd.R_mono (Kd.R_keep (IsS55.apart HI1.out HO1.out (by decide)) hk (fun _ h => h.2)) (fun _ _ => trivial) : Kd.R k29 29 w3 w.heap.size (fun _ => True) u7 acc)
              have HM := Aside0.mk (KeepBut.blk hk HM1.out (Ne.symm hgm) (by simp))
              have HB := Aside0.mk hb
              have HI := Aside0.mk hi
              clear HI1 HM1 HB1 HO1 HC hi hb hk
              cases ok with
              | false =>
                have H := HH.out
                rw [if_pos rfl] at H
                simp only [Option.some.injEq, Prod.mk.injEq] at H
                obtain ⟨rfl, rfl, rfl⟩ := H
                go_wp2_with ((with_reducible refine gate_dst (N := 11) rfl ?_); refine box_event ?hg (N := 11) ?hd (cs := #[.int .i64 0, .string (⟨#[]⟩ : ByteArray), .int .i64 0, .int .i64 0]) (t := 29) ?hr ?_; (case hd => rfl); (case hg => rfl); (case hr => first | (go_simp; done) | (go_simp; rfl)); intro gb hg w4 hbox hb; have n0_ := Aside0.mk (IsS55.below HI.out hb); have n1_ := Aside0.mk (Kd.R_below (Kd.R_elderB HO.out gb (Nat.le_of_eq hg.symm)) hb); have n2_ := Aside0.mk (below_step HB.out hb); have n3_ := Aside0.mk hbox; have n4_ := Aside0.mk ((by rw [hg]; exact below_size HB.out) : w.heap.size ≤ gb); have n5_ := Aside0.mk ((hb.block _ (blk_lt HM.out)).trans HM.out); have n6_ := Aside0.mk ((by rw [hg]; exact Nat.ne_of_lt (IsS55.lt HI.out)) : g ≠ gb); have n7_ := Aside0.mk ((by rw [hg]; exact Nat.ne_of_lt (blk_lt HM.out)) : w.heap.size ≠ gb); clear HI HO HB HM; have HI := n0_; have HO := n1_; have HB := n2_; have BK := n3_; have GW := n4_; have HM := n5_; have NB := n6_; have NM := n7_; clear n0_ n1_ n2_ n3_ n4_ n5_ n6_ n7_; clear hb hbox hg; have z0 : _ = some (Value.int .i64 0) := (blk_cell BK.out 0).trans rfl; have z1 : _ = some (Value.string (⟨#[]⟩ : ByteArray)) := (blk_cell BK.out 1).trans rfl; have z2 : _ = some (Value.int .i64 0) := (blk_cell BK.out 2).trans rfl; have z3 : _ = some (Value.int .i64 0) := (blk_cell BK.out 3).trans rfl; have y0 := blk_frozen BK.out 0; have y1 := blk_frozen BK.out 1; have y2 := blk_frozen BK.out 2; have y3 := blk_frozen BK.out 3; obtain ⟨Ao, co, eo⟩ := Kd.R_slice HO.out; subst eo)
                go_ret3
                exact ⟨_, rfl, Kd.R_nil _ _ _ _ _, (by repeat (first | (with_reducible first | exact HB.out | apply below_alloc | apply pw_below_drewN | apply below_drew1 | refine below_set ?_ GW.out) | exact HB.out))⟩
              | true =>
                have H := HH.out
                rw [if_neg (by simp)] at H
                clear HH
                by_cases hl : acc.length = 1000
                · rw [if_pos hl] at H
                  simp only [Option.some.injEq, Prod.mk.injEq] at H
                  obtain ⟨rfl, rfl, rfl⟩ := H
                  have e1 : ((acc.length : Int) == 1000) = true := by simp [hl]
                  clear hl
                  go_wp2_with ((with_reducible refine gate_dst (N := 11) rfl ?_); refine box_event ?hg (N := 11) ?hd (cs := #[.int .i64 0, .string (⟨#[]⟩ : ByteArray), .int .i64 0, .int .i64 0]) (t := 29) ?hr ?_; (case hd => rfl); (case hg => rfl); (case hr => first | (go_simp; done) | (go_simp; rfl)); intro gb hg w4 hbox hb; have n0_ := Aside0.mk (IsS55.below HI.out hb); have n1_ := Aside0.mk (Kd.R_below (Kd.R_elderB HO.out gb (Nat.le_of_eq hg.symm)) hb); have n2_ := Aside0.mk (below_step HB.out hb); have n3_ := Aside0.mk hbox; have n4_ := Aside0.mk ((by rw [hg]; exact below_size HB.out) : w.heap.size ≤ gb); have n5_ := Aside0.mk ((hb.block _ (blk_lt HM.out)).trans HM.out); have n6_ := Aside0.mk ((by rw [hg]; exact Nat.ne_of_lt (IsS55.lt HI.out)) : g ≠ gb); have n7_ := Aside0.mk ((by rw [hg]; exact Nat.ne_of_lt (blk_lt HM.out)) : w.heap.size ≠ gb); clear HI HO HB HM; have HI := n0_; have HO := n1_; have HB := n2_; have BK := n3_; have GW := n4_; have HM := n5_; have NB := n6_; have NM := n7_; clear n0_ n1_ n2_ n3_ n4_ n5_ n6_ n7_; clear hb hbox hg; have z0 : _ = some (Value.int .i64 0) := (blk_cell BK.out 0).trans rfl; have z1 : _ = some (Value.string (⟨#[]⟩ : ByteArray)) := (blk_cell BK.out 1).trans rfl; have z2 : _ = some (Value.int .i64 0) := (blk_cell BK.out 2).trans rfl; have z3 : _ = some (Value.int .i64 0) := (blk_cell BK.out 3).trans rfl; have y0 := blk_frozen BK.out 0; have y1 := blk_frozen BK.out 1; have y2 := blk_frozen BK.out 2; have y3 := blk_frozen BK.out 3; obtain ⟨Ao, co, eo⟩ := Kd.R_slice HO.out; subst eo)
                  go_ret3
                  exact ⟨_, rfl, Kd.R_nil _ _ _ _ _, (by repeat (first | (with_reducible first | exact HB.out | apply below_alloc | apply pw_below_drewN | apply below_drew1 | refine below_set ?_ GW.out) | exact HB.out))⟩
                · rw [if_neg hl] at H
                  obtain ⟨⟨x2, p2⟩, A2, H⟩ := Option.bind_eq_some_iff.mp H
                  have e1 : ((acc.length : Int) == 1000) = false := by rw [beq_eq_false_iff_ne]; omega
                  have HL2 := Aside0.mk (show acc.length < 1000 by have := HL.out; omega)
                  have AS := Aside0.mk A2
                  have AL := Aside0.mk H
                  clear hl A2 H HL
                  go_upto_region 16 with ((with_reducible refine gate_dst (N := 11) rfl ?_); refine box_event ?hg (N := 11) ?hd (cs := #[.int .i64 0, .string (⟨#[]⟩ : ByteArray), .int .i64 0, .int .i64 0]) (t := 29) ?hr ?_; (case hd => rfl); (case hg => rfl); (case hr => first | (go_simp; done) | (go_simp; rfl)); intro gb hg w4 hbox hb; have n0_ := Aside0.mk (IsS55.below HI.out hb); have n1_ := Aside0.mk (Kd.R_below (Kd.R_elderB HO.out gb (Nat.le_of_eq hg.symm)) hb); have n2_ := Aside0.mk (below_step HB.out hb); have n3_ := Aside0.mk hbox; have n4_ := Aside0.mk ((by rw [hg]; exact below_size HB.out) : w.heap.size ≤ gb); have n5_ := Aside0.mk ((hb.block _ (blk_lt HM.out)).trans HM.out); have n6_ := Aside0.mk ((by rw [hg]; exact Nat.ne_of_lt (IsS55.lt HI.out)) : g ≠ gb); have n7_ := Aside0.mk ((by rw [hg]; exact Nat.ne_of_lt (blk_lt HM.out)) : w.heap.size ≠ gb); clear HI HO HB HM; have HI := n0_; have HO := n1_; have HB := n2_; have BK := n3_; have GW := n4_; have HM := n5_; have NB := n6_; have NM := n7_; clear n0_ n1_ n2_ n3_ n4_ n5_ n6_ n7_; clear hb hbox hg; have z0 : _ = some (Value.int .i64 0) := (blk_cell BK.out 0).trans rfl; have z1 : _ = some (Value.string (⟨#[]⟩ : ByteArray)) := (blk_cell BK.out 1).trans rfl; have z2 : _ = some (Value.int .i64 0) := (blk_cell BK.out 2).trans rfl; have z3 : _ = some (Value.int .i64 0) := (blk_cell BK.out 3).trans rfl; have y0 := blk_frozen BK.out 0; have y1 := blk_frozen BK.out 1; have y2 := blk_frozen BK.out 2; have y3 := blk_frozen BK.out 3; obtain ⟨Ao, co, eo⟩ := Kd.R_slice HO.out; subst eo)
                  go_upto_region 18 with (fail)
                  go_upto_region 19 with (fail)
                  have HI2 : IsS55 w (((((w4.setCell ⟨gb, 0, none⟩ (.int .i64 ka)).setCell ⟨gb, 1, none⟩ (.string ta)).setCell ⟨gb, 2, none⟩ (.int .i64 na)).setCell ⟨gb, 3, none⟩ (.int .i64 ca)).setCell ⟨gb, 3, none⟩ (.int .i64 (n : Int))) g x' p' := (by repeat (first | (with_reducible first | exact HI.out | apply IsS55.alloc | apply IsS55.drewN | apply IsS55.drew | apply IsS55.set_0 | apply IsS55.set_1 | refine IsS55.far ?_ NB.out _) | exact HI.out))
                  have HM2 : (((((w4.setCell ⟨gb, 0, none⟩ (.int .i64 ka)).setCell ⟨gb, 1, none⟩ (.string ta)).setCell ⟨gb, 2, none⟩ (.int .i64 na)).setCell ⟨gb, 3, none⟩ (.int .i64 ca)).setCell ⟨gb, 3, none⟩ (.int .i64 (n : Int))).heap[w.heap.size]? = some beginM := begin_far (begin_far (begin_far (begin_far (begin_far HM.out NM.out _) NM.out _) NM.out _) NM.out _) NM.out _
                  have HB2 : Below w.heap.size w (((((w4.setCell ⟨gb, 0, none⟩ (.int .i64 ka)).setCell ⟨gb, 1, none⟩ (.string ta)).setCell ⟨gb, 2, none⟩ (.int .i64 na)).setCell ⟨gb, 3, none⟩ (.int .i64 ca)).setCell ⟨gb, 3, none⟩ (.int .i64 (n : Int))) := (by repeat (first | (with_reducible first | exact HB.out | apply below_alloc | apply pw_below_drewN | apply below_drew1 | refine below_set ?_ GW.out) | exact HB.out))
                  have HO2 : Kd.R k29 29 (((((w4.setCell ⟨gb, 0, none⟩ (.int .i64 ka)).setCell ⟨gb, 1, none⟩ (.string ta)).setCell ⟨gb, 2, none⟩ (.int .i64 na)).setCell ⟨gb, 3, none⟩ (.int .i64 ca)).setCell ⟨gb, 3, none⟩ (.int .i64 (n : Int))) w.heap.size (fun k_ => k_ ≠ gb) (.slice Ao acc.length co) acc := Kd.R_mono (Kd.R_far (p := ⟨gb, 3, none⟩) (Kd.R_far (p := ⟨gb, 3, none⟩) (Kd.R_far (p := ⟨gb, 2, none⟩) (Kd.R_far (p := ⟨gb, 1, none⟩) (Kd.R_far (p := ⟨gb, 0, none⟩) HO.out (fun _ h => h.2) _) (fun _ h => h.2) _) (fun _ h => h.2) _) (fun _ h => h.2) _) (fun _ h => h.2) _) (fun _ h => h.2)
                  have BK2 : (((((w4.setCell ⟨gb, 0, none⟩ (.int .i64 ka)).setCell ⟨gb, 1, none⟩ (.string ta)).setCell ⟨gb, 2, none⟩ (.int .i64 na)).setCell ⟨gb, 3, none⟩ (.int .i64 ca)).setCell ⟨gb, 3, none⟩ (.int .i64 (n : Int))).heap[gb]? = some (.cells #[.int .i64 ka, .string ta, .int .i64 na, .int .i64 n] 29 (0, 0)) := by
                    refine blk_put (cs := #[.int .i64 ka, .string ta, .int .i64 na, .int .i64 ca]) ?_ 3 _ rfl
                    refine blk_put (cs := #[.int .i64 ka, .string ta, .int .i64 na, .int .i64 0]) ?_ 3 _ rfl
                    refine blk_put (cs := #[.int .i64 ka, .string ta, .int .i64 0, .int .i64 0]) ?_ 2 _ rfl
                    refine blk_put (cs := #[.int .i64 ka, .string (⟨#[]⟩ : ByteArray), .int .i64 0, .int .i64 0]) ?_ 1 _ rfl
                    refine blk_put (cs := #[.int .i64 0, .string (⟨#[]⟩ : ByteArray), .int .i64 0, .int .i64 0]) ?_ 0 _ rfl
                    exact BK.out
                  clear HI HM HB HO BK z0 z1 z2 z3 y0 y1 y2 y3
                  generalize (((((w4.setCell ⟨gb, 0, none⟩ (.int .i64 ka)).setCell ⟨gb, 1, none⟩ (.string ta)).setCell ⟨gb, 2, none⟩ (.int .i64 na)).setCell ⟨gb, 3, none⟩ (.int .i64 ca)).setCell ⟨gb, 3, none⟩ (.int .i64 (n : Int))) = WW at *
                  have HI := Aside0.mk HI2
                  have HM := Aside0.mk HM2
                  have HB := Aside0.mk HB2
                  have HO := Aside0.mk HO2
                  have BK := Aside0.mk BK2
                  clear HI2 HM2 HB2 HO2 BK2
                  have l0 : WW.cell? ⟨gb, 0, none⟩ = some (.int .i64 ka) := (blk_cell BK.out 0).trans rfl
                  have l1 : WW.cell? ⟨gb, 1, none⟩ = some (.string ta) := (blk_cell BK.out 1).trans rfl
                  have l2 : WW.cell? ⟨gb, 2, none⟩ = some (.int .i64 na) := (blk_cell BK.out 2).trans rfl
                  have l3 : WW.cell? ⟨gb, 3, none⟩ = some (.int .i64 n) := (blk_cell BK.out 3).trans rfl
                  go_wp2_with (first | ((with_reducible refine gate_builtin (b := .append) (xs := #[.tmp 65, .tmp 67]) rfl ?_); at_builtin; refine Kd.R_append k29 (w0 := w) w.heap.size rfl (.tmp 65) (.tmp 67) 23 29 (.agg #[(.int .i64 0), (.string ⟨#[]⟩), (.int .i64 0), (.int .i64 0)]) 40 rfl Tryd.underlying23 info29 rfl (by decide) (by omega) (.slice Ao acc.length co) acc (⟨ka, ta, na, n⟩ : S29) [.int .i64 ka, .string ta, .int .i64 na, .int .i64 n] (fun k_ => k_ ≠ gb) (fun _ => False) rfl (by first | (go_simp; done) | (go_simp; rfl)) ?aP (fun _ hk => hk.elim) ?aF ?aO ?aB ?aS ?aL ?_; (case aP => exact k29_mkM _ _ _ (⟨ka, ta, na, n⟩ : S29)); (case aB => exact (by repeat (first | (with_reducible first | exact HB.out | apply below_alloc | apply pw_below_drewN | apply below_drew1) | exact HB.out))); (case aF => exact fun k_ hk => by have := blk_lt BK.out; omega); (case aO => (with_reducible repeat (first | apply Kd.R_alloc | apply Kd.R_drewN | apply Kd.R_drew)); exact HO.out); (case aS => exact below_size (by repeat (first | (with_reducible first | exact HB.out | apply below_alloc | apply pw_below_drewN | apply below_drew1) | exact HB.out))); (case aL => have := HL2.out; omega); intro v1 w5 ho hb hg hat; have n0_ := Aside0.mk (IsS55.grown (by repeat (first | (with_reducible first | exact HI.out | apply IsS55.alloc | apply IsS55.drewN | apply IsS55.drew | apply IsS55.set_0 | apply IsS55.set_1) | exact HI.out)) hg (IsS55.own_ne HI.out HO.out (by decide))); have n1_ := Aside0.mk (blk_grown HM.out hg (begin_ne HO.out HM.out)); have n2_ := Aside0.mk hb; have n3_ := Aside0.mk (Kd.R_mono (ok' := fun _ => True) ho (fun _ _ => trivial)); clear HI HM HB HO BK l0 l1 l2 l3; have HI := n0_; have HM := n1_; have HB := n2_; have HO := n3_; clear n0_ n1_ n2_ n3_ ho hb hg hat) | (go_at_call 37; refine (token_reader_skip.calls k1 g x' p' x2 p2 w _ HI.out HB.out AS.out).mono ?_; rintro e w6 ⟨rfl, hi, hb, hk⟩; have n0_ := Aside0.mk (KeepBut.blk hk HM.out (Ne.symm hgm) (by simp)); have n1_ := Aside0.mk (Kd.R_mono (ok' := fun _ => True) (Kd.R_keep (IsS55.apart HI.out HO.out (by decide)) hk (fun _ h => h.2)) (fun _ _ => trivial)); clear HM HB HI HO AS hk; have HM := n0_; have HO := n1_; have HB := Aside0.mk hb; have HI := Aside0.mk hi; clear n0_ n1_ hb hi))
                  go_roundg k1
                  case measure => omega
                  case rel => exact ⟨x2, _, p2, AL, HO, HI, HM, HB, ⟨by have := HL2.out; simp; omega⟩⟩
          · rw [if_neg hp0] at H; cases H
        · rw [if_neg hlt] at H
          simp only [Option.some.injEq, Prod.mk.injEq] at H
          obtain ⟨rfl, rfl, rfl⟩ := H
          have d1 : decide (p < (a0.size : Int)) = false := decide_eq_false hlt
          clear hlt
          go_wp2
          go_ret3
          exact ⟨_, rfl, HO.out, HB.out⟩
end Go.Proofs.YtngcojabofkbjaaDoor.P
namespace Go.Proofs.YtngcojabofkbjaaDoor.P
open Go.RowKit Go.Proofs.YtngcojabofkbjaaDoorW.PrintWords Go.Proofs.YtngcojabofkbjaaDoorW.PrintLast Go.Proofs.YtngcojabofkbjaaDoorW.PrintMore
set_option linter.unusedVariables false
set_option linter.unusedSimpArgs false
abbrev bl (s : ByteArray) : List UInt8 := s.data.toList
theorem bl_length (s : ByteArray) : (bl s).length = s.size := by simp [bl]
theorem bt_nat (s : ByteArray) (i : Nat) (h : i < s.size) : bt s i = (s[i].toNat : Int) := by simp [bt, h]
theorem drop_bl (s : ByteArray) (i : Nat) (h : i < s.size) : (bl s).drop i = s[i] :: (bl s).drop (i + 1) := by
  have h2 : i < (bl s).length := by rw [bl_length]; exact h
  rw [List.drop_eq_getElem_cons h2]
  rfl
theorem extract_bl (s : ByteArray) (i j : Nat) : bl (s.extract i j) = ((bl s).drop i).take (j - i) := by
  simp [bl, ByteArray.data_extract, List.extract_eq_take_drop]
theorem mk_bl (s : ByteArray) : (⟨(bl s).toArray⟩ : ByteArray) = s := by simp [bl]
theorem toList_bl (s : ByteArray) : s.toList = bl s := ByteArray.toList_eq s
theorem eq_of_bl {a b : ByteArray} (h : bl a = bl b) : a = b := by rw [← mk_bl a, ← mk_bl b, h]
theorem wrap_small (n : Int) (h0 : -1000000000000000000 ≤ n) (h1 : n ≤ 1000000000000000000) : wrap64 n = n := by unfold wrap64; omega
theorem index_mem (l : List UInt8) (c : UInt8) : Lib.indexByte l c = if c ∈ l then ((l.takeWhile (· != c)).length : Int) else -1 := by
  induction l with
  | nil => simp [Lib.indexByte]
  | cons b l ih =>
    unfold Lib.indexByte
    by_cases hb : b = c
    · subst hb; simp
    · have hb2 : c ≠ b := fun e => hb e.symm
      simp only [beq_iff_eq, hb, if_false, ih, List.mem_cons, hb2, false_or]
      by_cases hm : c ∈ l
      · simp only [hm, if_true, List.takeWhile_cons, bne_iff_ne, ne_eq, hb, not_false_eq_true, if_true]
        rw [if_neg (by omega)]
        simp
      · simp [hm]
theorem index_ge (l : List UInt8) (c : UInt8) : 0 ≤ Lib.indexByte l c ↔ c ∈ l := by
  rw [index_mem]; split <;> simp_all
theorem index_at (l : List UInt8) (s : ByteArray) (i : Nat) (h : i < s.size) : strings_IndexByte.f ⟨l.toArray⟩ (bt s i) = some (Lib.indexByte l s[i]) := by
  unfold strings_IndexByte.f
  rw [bt_nat s i h]
  simp
def blankB (c : UInt8) : Bool := c == 32 || c == 9 || c == 10 || c == 13
def skipN : Bool → List UInt8 → Nat
  | _, [] => 0
  | true, b :: r => 1 + skipN (b != 10) r
  | false, b :: r => if blankB b then 1 + skipN false r else if b = 47 ∧ r.head? = some 47 then 1 + skipN true r else 0
theorem skipN_le (c : Bool) (l : List UInt8) : skipN c l ≤ l.length := by
  induction l generalizing c with
  | nil => simp [skipN]
  | cons b r ih =>
    cases c
    · unfold skipN
      split
      · have := ih false; simp; omega
      · split
        · have := ih true; simp; omega
        · simp
    · unfold skipN; have := ih (b != 10); simp only [List.length_cons]; omega
theorem skipN_line (l : List UInt8) : skipN true l = (l.takeWhile (· != 10)).length + skipN false (l.drop (l.takeWhile (· != 10)).length) := by
  induction l with
  | nil => simp [skipN]
  | cons b r ih =>
    by_cases hb : b = 10
    · subst hb; simp [skipN, blankB]
    · have : (b != 10) = true := by simp [hb]
      rw [skipN, this, ih]
      simp [List.takeWhile_cons, this]
      omega
theorem takeWhile_all {α : Type} (p : α → Bool) (l : List α) (h : ∀ x ∈ l, p x = true) : l.takeWhile p = l := by
  induction l with
  | nil => rfl
  | cons a r ih => rw [List.takeWhile_cons, if_pos (h a (by simp)), ih (fun x hx => h x (by simp [hx]))]
theorem cut_line (a : ByteArray) : (cutAt a 10).1.size = ((bl a).takeWhile (· != 10)).length := by
  unfold cutAt
  rw [show Lib.indexByte a.data.toList 10 = Lib.indexByte (bl a) 10 from rfl, index_mem]
  by_cases hm : (10 : UInt8) ∈ bl a
  · rw [if_pos hm, if_neg (by omega)]
    have : ((bl a).takeWhile (· != 10)).length ≤ (bl a).length := (List.takeWhile_sublist _).length_le
    rw [bl_length] at this
    simp only [Int.toNat_natCast, ByteArray.size_extract]
    omega
  · rw [if_neg hm, if_pos (by omega)]
    have : (bl a).takeWhile (· != 10) = bl a := by
      apply takeWhile_all
      intro x hx
      simp only [bne_iff_ne, ne_eq]
      rintro rfl
      exact hm hx
    rw [this, bl_length]
theorem rest_eq (s : ByteArray) (i : Nat) (h : i ≤ s.size) : token_reader_rest.f s i = some (s.extract i s.size, s, (i : Int)) := by
  unfold token_reader_rest.f
  rw [if_pos (by omega), if_pos (by omega)]
  simp
theorem rest_bl (s : ByteArray) (i : Nat) (h : i ≤ s.size) : bl (s.extract i s.size) = (bl s).drop i := by
  rw [extract_bl, List.take_of_length_le]
  simp [bl_length]
theorem prefix_eq (a : ByteArray) : strings_HasPrefix.f a ⟨#[47, 47]⟩ = some (decide ((bl a).take 2 = [47, 47])) := by
  have e2 : (⟨#[47, 47]⟩ : ByteArray).size = 2 := rfl
  unfold strings_HasPrefix.f stringslite_HasPrefix.f
  rw [e2]
  by_cases h : (a.size : Int) ≥ ((2 : Nat) : Int)
  · rw [if_pos h, if_pos (by omega), if_pos (by omega)]
    simp only [Option.bind_some, toList_bl, extract_bl]
    congr 1
    simp [bl]
    rw [Bool.eq_iff_iff]; simp
  · rw [if_neg h]
    simp only [Option.bind_some]
    congr 1
    symm
    rw [decide_eq_false_iff_not]
    intro e
    have := congrArg List.length e
    rw [List.length_take, bl_length] at this
    simp at this
    omega
theorem skip_l0 (s : ByteArray) (hs : s.size ≤ 1000000000000) : ∀ (d k i : Nat), i ≤ s.size → s.size - i ≤ d → d < k → token_reader_skip.l0 k s i = some (s, ((i + skipN false ((bl s).drop i) : Nat) : Int)) := by
  intro d
  induction d with
  | zero =>
    intro k i hi hd hk
    obtain ⟨k, rfl⟩ : ∃ m, k = m + 1 := ⟨k - 1, by omega⟩
    obtain rfl : i = s.size := by omega
    simp only [token_reader_skip.l0]
    rw [if_neg (by omega), List.drop_of_length_le (by rw [bl_length]; omega)]
    simp [skipN]
  | succ d ih =>
    intro k i hi hd hk
    obtain ⟨k, rfl⟩ : ∃ m, k = m + 1 := ⟨k - 1, by omega⟩
    by_cases hlt : i < s.size
    · simp only [token_reader_skip.l0]
      rw [if_pos (by omega), if_pos (by omega), index_at _ s i hlt]
      simp only [Option.bind_some, ge_iff_le, index_ge]
      rw [drop_bl s i hlt]
      by_cases hb : blankB s[i] = true
      · have hm : s[i] ∈ ([32, 9, 10, 13] : List UInt8) := by unfold blankB at hb; simpa [or_assoc] using hb
        rw [if_pos hm, wrap_small _ (by omega) (by omega), show ((i : Int) + 1) = ((i + 1 : Nat) : Int) from by omega, ih k (i + 1) (by omega) (by omega) (by omega)]
        simp only [skipN, hb, if_true]
        congr 2
        omega
      · have hm : ¬ s[i] ∈ ([32, 9, 10, 13] : List UInt8) := by unfold blankB at hb; simpa [or_assoc] using hb
        rw [if_neg hm, rest_eq s i hi]
        simp only [Option.bind_some, prefix_eq, rest_bl s i hi, rest_eq s i hi]
        rw [drop_bl s i hlt]
        by_cases hc : s[i] = 47 ∧ ((bl s).drop (i + 1)).head? = some 47
        · obtain ⟨h1, h2⟩ := hc
          obtain ⟨r, hr⟩ : ∃ r, (bl s).drop (i + 1) = 47 :: r := by
            cases hl : (bl s).drop (i + 1) with
            | nil => rw [hl] at h2; cases h2
            | cons a r => rw [hl] at h2; simp at h2; exact ⟨r, by rw [h2]⟩
          have hcut : strings_Cut.f (s.extract i s.size) (⟨#[10]⟩ : ByteArray) = some (cutAt (s.extract i s.size) 10) := by
            unfold strings_Cut.f
            rw [if_pos (by simp only [ByteArray.size_extract]; omega)]
          have hln : (cutAt (s.extract i s.size) 10).1.size = 1 + ((47 :: r : List UInt8).takeWhile (· != 10)).length := by
            rw [cut_line, rest_bl s i hi, drop_bl s i hlt, h1, hr]
            simp [List.takeWhile_cons]
            omega
          have hle : ((47 :: r : List UInt8).takeWhile (· != 10)).length ≤ s.size - i - 1 := by
            have a1 := (List.takeWhile_sublist (l := (47 :: r : List UInt8)) (· != 10)).length_le
            have a2 := congrArg List.length hr
            rw [List.length_drop, bl_length] at a2
            omega
          rw [h1, hr]
          simp only [List.take_succ_cons, List.take_zero, decide_true, if_true, hcut, Option.bind_some, hln]
          rw [wrap_small _ (by omega) (by omega), show ((i : Int) + ((1 + ((47 :: r : List UInt8).takeWhile (· != 10)).length : Nat) : Int)) = ((i + (1 + ((47 :: r : List UInt8).takeWhile (· != 10)).length) : Nat) : Int) from by omega, ih k _ (by omega) (by omega) (by omega)]
          have e : skipN false (47 :: 47 :: r) = 1 + skipN true (47 :: r) := by simp [skipN, blankB]
          rw [e, skipN_line]
          have e2 : (bl s).drop (i + (1 + ((47 :: r : List UInt8).takeWhile (· != 10)).length)) = (47 :: r : List UInt8).drop ((47 :: r : List UInt8).takeWhile (· != 10)).length := by
            rw [← hr, List.drop_drop]
            congr 1
            omega
          rw [e2]
          congr 2
          omega
        · have hn : ¬ (List.take 2 (s[i] :: (bl s).drop (i + 1)) = [47, 47]) := by
            intro e
            apply hc
            cases hl : (bl s).drop (i + 1) with
            | nil => rw [hl] at e; simp at e
            | cons a r => rw [hl] at e; simp at e; exact ⟨e.1, by simp [e.2]⟩
          simp only [hn, decide_false]
          rw [if_neg (by simp)]
          unfold skipN
          rw [if_neg hb, if_neg hc]
          simp
    · obtain rfl : i = s.size := by omega
      simp only [token_reader_skip.l0]
      rw [if_neg (by omega), List.drop_of_length_le (by rw [bl_length]; omega)]
      simp [skipN]
theorem skip_eq (s : ByteArray) (hs : s.size ≤ 1000000000000) (k i : Nat) (hi : i ≤ s.size) (hk : s.size - i < k) : token_reader_skip.f k s i = some (s, ((i + skipN false ((bl s).drop i) : Nat) : Int)) :=
  skip_l0 s hs (s.size - i) k i hi (Nat.le_refl _) hk
theorem bt_get (a : ByteArray) (j : Nat) (c : UInt8) (h : (bl a)[j]? = some c) : bt a j = (c.toNat : Int) := by
  obtain ⟨hj, e⟩ := List.getElem?_eq_some_iff.mp h
  rw [bl_length] at hj
  rw [bt_nat a j hj, ← e]
  rfl
theorem stopAt_eq (p : Int → Bool) (s : ByteArray) : ∀ n i, i ≤ s.size → s.size - i ≤ n → stopAt p s n i = i + (((bl s).drop i).takeWhile (fun c => p (c.toNat : Int))).length := by
  intro n
  induction n with
  | zero =>
    intro i hi hn
    obtain rfl : i = s.size := by omega
    rw [stopAt, List.drop_of_length_le (by rw [bl_length]; omega)]
    simp
  | succ n ih =>
    intro i hi hn
    unfold stopAt
    by_cases hlt : i < s.size
    · rw [if_pos hlt, drop_bl s i hlt, bt_nat s i hlt, List.takeWhile_cons]
      by_cases hp : p (s[i].toNat : Int) = true
      · rw [if_pos hp, if_pos hp, ih (i + 1) (by omega) (by omega)]
        simp; omega
      · rw [if_neg hp, if_neg hp]; simp
    · rw [if_neg hlt, List.drop_of_length_le (by rw [bl_length]; omega)]
      simp
def nameU (c : UInt8) : Bool := nameB (c.toNat : Int)
def numU (c : UInt8) : Bool := numB (c.toNat : Int)
def runN (p : UInt8 → Bool) : List UInt8 → Nat
  | [] => 0
  | _ :: r => 1 + (r.takeWhile p).length
theorem runN_le (p : UInt8 → Bool) (l : List UInt8) : runN p l ≤ l.length := by
  cases l with
  | nil => simp [runN]
  | cons a r => have := (List.takeWhile_sublist (l := r) p).length_le; simp only [runN, List.length_cons]; omega
theorem while_text (p : Int → Bool) (s : ByteArray) (i : Nat) (hi : i < s.size) :
    stopAt p s s.size (i + 1) = i + runN (fun c => p (c.toNat : Int)) ((bl s).drop i) ∧ s.extract i (stopAt p s s.size (i + 1)) = ⟨(((bl s).drop i).take (runN (fun c => p (c.toNat : Int)) ((bl s).drop i))).toArray⟩ := by
  have e : stopAt p s s.size (i + 1) = i + runN (fun c => p (c.toNat : Int)) ((bl s).drop i) := by
    rw [stopAt_eq p s s.size (i + 1) (by omega) (by omega), drop_bl s i hi]
    simp only [runN]; omega
  refine ⟨e, ?_⟩
  apply eq_of_bl
  rw [e, extract_bl]
  simp [bl]
theorem name_eq (s : ByteArray) (hs : s.size ≤ 1000000000000) (i : Nat) (hi : i < s.size) :
    token_reader_name.f s i = some (0, ⟨(((bl s).drop i).take (runN nameU ((bl s).drop i))).toArray⟩, 0, 0, true, s, ((i + runN nameU ((bl s).drop i) : Nat) : Int)) := by
  obtain ⟨h1, h2⟩ := while_text nameB s i hi
  unfold token_reader_name.f token_reader_while.f
  rw [if_pos ⟨by omega, by omega, by omega⟩, if_pos rfl, Int.toNat_natCast]
  simp only [Option.bind_some, h2]
  rw [h1]
  rfl
theorem num_eq (s : ByteArray) (hs : s.size ≤ 1000000000000) (i : Nat) (hi : i < s.size) :
    token_reader_num.f s i = some (1, ⟨(((bl s).drop i).take (runN numU ((bl s).drop i))).toArray⟩, numV (((bl s).drop i).take (runN numU ((bl s).drop i))), 0, numOk (((bl s).drop i).take (runN numU ((bl s).drop i))), s, ((i + runN numU ((bl s).drop i) : Nat) : Int)) := by
  obtain ⟨h1, h2⟩ := while_text numB s i hi
  unfold token_reader_num.f token_reader_while.f
  rw [if_pos ⟨by omega, by omega, by omega⟩, if_neg (by decide), if_pos rfl, Int.toNat_natCast]
  simp only [Option.bind_some, h2]
  rw [h1]
  rfl
theorem one_eq (s : ByteArray) (hs : s.size ≤ 1000000000000) (i : Nat) (hi : i < s.size) :
    token_reader_one.f s i = some (3, ⟨#[s[i]]⟩, 0, 0, true, s, ((i + 1 : Nat) : Int)) := by
  unfold token_reader_one.f
  rw [if_pos ⟨by omega, by omega, by omega⟩, Int.toNat_natCast]
  have e : s.extract i (i + 1) = ⟨#[s[i]]⟩ := by
    apply eq_of_bl
    rw [extract_bl, drop_bl s i hi, show i + 1 - i = 1 from by omega]
    simp [bl]
  rw [e]
  simp
def hexesL : List UInt8 := [48, 49, 50, 51, 52, 53, 54, 55, 56, 57, 97, 98, 99, 100, 101, 102]
def hexI (c : UInt8) : Int := Lib.indexByte hexesL c
theorem hexI_range (c : UInt8) : -1 ≤ hexI c ∧ hexI c ≤ 15 := by
  have := indexByte_range hexesL c
  unfold hexI
  have e : hexesL.length = 16 := rfl
  rw [e] at this
  omega
theorem hex_bits : ∀ a b : Fin 16, (Go.bits .or .i64 (wrap64 ((a.val : Int) * 16)) (Go.bits .and .i64 (b.val : Int) 15)) % 256 = (a.val : Int) * 16 + b.val := by decide +kernel
def markL : List UInt8 → Option (UInt8 × Nat)
  | [] => none
  | d :: r => if d = 34 then some (34, 1) else if d = 92 then some (92, 1) else if d = 110 then some (10, 1)
    else if d = 120 then match r with
      | a :: b :: _ => if 0 ≤ hexI a ∧ 0 ≤ hexI b then some (UInt8.ofNat ((hexI a).toNat * 16 + (hexI b).toNat), 3) else none
      | _ => none
    else none
theorem mark_eq (s : ByteArray) (hs : s.size ≤ 1000000000000) (k i : Nat) (hi : i ≤ s.size) (hk : 0 < k) :
    (∀ m n, markL ((bl s).drop i) = some (m, n) → token_reader_mark.f k s i = some ((m.toNat : Int), true, s, ((i + n : Nat) : Int))) ∧
    (markL ((bl s).drop i) = none → ∃ v p, token_reader_mark.f k s i = some (v, false, s, p)) := by
  obtain ⟨k, rfl⟩ : ∃ m, k = m + 1 := ⟨k - 1, by omega⟩
  unfold token_reader_mark.f
  rw [rest_eq s i hi]
  have hb := rest_bl s i hi
  have hz : (s.extract i s.size).size = ((bl s).drop i).length := by rw [← bl_length, hb]
  simp only [Option.bind_some, toList_bl, hb]
  generalize s.extract i s.size = x at *
  cases hl : (bl s).drop i with
  | nil => simp [markL]
  | cons d r =>
    rw [hl] at hb hz
    have hx : 0 < (x.size : Int) := by rw [hz]; simp
    have b0 : bt x 0 = (d.toNat : Int) := bt_get x 0 d (by rw [hb]; rfl)
    rw [if_neg (by simp), if_pos hx]
    have hI : strings_IndexByte.f (⟨#[34, 92, 110]⟩ : ByteArray) (bt x 0) = some (Lib.indexByte [34, 92, 110] d) := by
      unfold strings_IndexByte.f; rw [b0]; simp
    rw [hI]
    simp only [Option.bind_some]
    by_cases d34 : d = 34
    · subst d34
      have e : Lib.indexByte [34, 92, 110] 34 = 0 := by decide
      rw [e, wrap_small _ (by omega) (by omega)]
      have e2 : bt (⟨#[34, 92, 10]⟩ : ByteArray) 0 = 34 := by decide
      simp [markL, e2]
    · by_cases d92 : d = 92
      · subst d92
        have e : Lib.indexByte [34, 92, 110] 92 = 1 := by decide
        rw [e, wrap_small _ (by omega) (by omega)]
        have e2 : bt (⟨#[34, 92, 10]⟩ : ByteArray) 1 = 92 := by decide
        simp [markL, e2]
      · by_cases d110 : d = 110
        · subst d110
          have e : Lib.indexByte [34, 92, 110] 110 = 2 := by decide
          rw [e, wrap_small _ (by omega) (by omega)]
          have e2 : bt (⟨#[34, 92, 10]⟩ : ByteArray) 2 = 10 := by decide
          simp [markL, e2]
        · have e : ¬ (Lib.indexByte [34, 92, 110] d ≥ 0) := by rw [ge_iff_le, index_ge]; simp [d34, d92, d110]
          rw [if_neg e]
          by_cases d120 : d = 120
          · subst d120
            have b0' : (bt x 0 != 120) = false := by rw [b0]; decide
            rw [b0']
            match r, hl, hb, hz with
            | [], hl, hb, hz =>
              rw [if_pos (by rw [hz]; simp)]
              simp [markL, token_reader_mark.j0]
            | [a], hl, hb, hz =>
              rw [if_pos (by rw [hz]; simp)]
              simp [markL, token_reader_mark.j0]
            | a :: b :: r', hl, hb, hz =>
              rw [if_neg (by rw [hz]; simp; omega)]
              have b1 : bt x 1 = (a.toNat : Int) := bt_get x 1 a (by rw [hb]; rfl)
              have b2 : bt x 2 = (b.toNat : Int) := bt_get x 2 b (by rw [hb]; rfl)
              have h1 : strings_IndexByte.f (⟨#[48, 49, 50, 51, 52, 53, 54, 55, 56, 57, 97, 98, 99, 100, 101, 102]⟩ : ByteArray) (bt x 1) = some (hexI a) := by
                unfold strings_IndexByte.f; rw [b1]; simp [hexI, hexesL]
              have h2 : strings_IndexByte.f (⟨#[48, 49, 50, 51, 52, 53, 54, 55, 56, 57, 97, 98, 99, 100, 101, 102]⟩ : ByteArray) (bt x 2) = some (hexI b) := by
                unfold strings_IndexByte.f; rw [b2]; simp [hexI, hexesL]
              simp only [token_reader_mark.j0, h1, h2, Option.bind_some]
              rw [if_neg (by simp), if_pos (by rw [hz]; simp; omega), if_pos (by rw [hz]; simp; omega), wrap_small ((i : Int) + 3) (by omega) (by omega)]
              have ra := hexI_range a
              have rb := hexI_range b
              by_cases ha : 0 ≤ hexI a
              · rw [if_pos ha]
                by_cases hb2 : 0 ≤ hexI b
                · have em : markL (120 :: a :: b :: r') = some (UInt8.ofNat ((hexI a).toNat * 16 + (hexI b).toNat), 3) := by simp [markL, ha, hb2]
                  rw [em]
                  have hv := hex_bits ⟨(hexI a).toNat, by omega⟩ ⟨(hexI b).toNat, by omega⟩
                  simp only [Int.toNat_of_nonneg ha, Int.toNat_of_nonneg hb2] at hv
                  rw [hv]
                  refine ⟨fun m n hmn => ?_, fun h => by cases h⟩
                  simp only [Option.some.injEq, Prod.mk.injEq] at hmn
                  obtain ⟨rfl, rfl⟩ := hmn
                  have e3 : ((UInt8.ofNat ((hexI a).toNat * 16 + (hexI b).toNat)).toNat : Int) = hexI a * 16 + hexI b := by
                    rw [UInt8.toNat_ofNat', Nat.mod_eq_of_lt (by omega)]; omega
                  rw [e3]
                  simp [hb2]
                · have em : markL (120 :: a :: b :: r') = none := by simp [markL, hb2]
                  rw [em]
                  refine ⟨fun m n h => (by cases h), fun _ => ⟨Go.bits .or .i64 (wrap64 (hexI a * 16)) (Go.bits .and .i64 (hexI b) 15) % 256, (i : Int) + 3, ?_⟩⟩
                  rw [show decide (hexI b ≥ 0) = false from decide_eq_false (by omega)]
              · rw [if_neg ha]
                have em : markL (120 :: a :: b :: r') = none := by simp [markL, ha]
                rw [em]
                exact ⟨fun m n h => (by cases h), fun _ => ⟨_, _, rfl⟩⟩
          · have em : markL (d :: r) = none := by simp [markL, d34, d92, d110, d120]
            rw [em]
            have b0' : (bt x 0 != 120) = true := by
              rw [b0, bne_iff_ne]
              intro e
              apply d120
              rw [← UInt8.toNat_inj]
              have : d.toNat = 120 := by omega
              rw [this]; rfl
            rw [b0']
            refine ⟨fun m n h => (by cases h), fun _ => ⟨0, i, ?_⟩⟩
            split
            · simp [token_reader_mark.j0]
            · simp [token_reader_mark.j0]
def strL : Nat → List UInt8 → Option (List UInt8 × Nat)
  | 0, _ => none
  | _ + 1, [] => none
  | f + 1, c :: r => if c = 34 then some ([], 1) else if c = 92 then (match markL r with
      | none => none
      | some (m, n) => (strL f (r.drop n)).map fun x => (m :: x.1, n + 1 + x.2))
    else if c < 32 then none else if c = 127 then none else (strL f r).map fun x => (c :: x.1, x.2 + 1)
theorem markL_le (l : List UInt8) (m : UInt8) (n : Nat) (h : markL l = some (m, n)) : 1 ≤ n ∧ n ≤ l.length := by
  cases l with
  | nil => cases h
  | cons d r =>
    simp only [markL] at h
    by_cases h1 : d = 34
    · rw [if_pos h1] at h; simp only [Option.some.injEq, Prod.mk.injEq] at h; obtain ⟨_, rfl⟩ := h; simp
    · rw [if_neg h1] at h
      by_cases h2 : d = 92
      · rw [if_pos h2] at h; simp only [Option.some.injEq, Prod.mk.injEq] at h; obtain ⟨_, rfl⟩ := h; simp
      · rw [if_neg h2] at h
        by_cases h3 : d = 110
        · rw [if_pos h3] at h; simp only [Option.some.injEq, Prod.mk.injEq] at h; obtain ⟨_, rfl⟩ := h; simp
        · rw [if_neg h3] at h
          by_cases h4 : d = 120
          · rw [if_pos h4] at h
            match r, h with
            | [], h => cases h
            | [a], h => cases h
            | a :: b :: r', h =>
              simp only at h
              split at h
              · simp only [Option.some.injEq, Prod.mk.injEq] at h; obtain ⟨_, rfl⟩ := h; simp
              · cases h
          · rw [if_neg h4] at h; cases h
theorem strL_le : ∀ (f : Nat) (l t : List UInt8) (n : Nat), strL f l = some (t, n) → 1 ≤ n ∧ n ≤ l.length ∧ t.length + 1 ≤ n := by
  intro f
  induction f with
  | zero => intro l t n h; simp [strL] at h
  | succ f ih =>
    intro l t n h
    cases l with
    | nil => simp [strL] at h
    | cons c r =>
      unfold strL at h
      split at h
      · simp only [Option.some.injEq, Prod.mk.injEq] at h; obtain ⟨rfl, rfl⟩ := h; simp
      · split at h
        · split at h
          · cases h
          · rename_i m j hm
            obtain ⟨h1, h2⟩ := markL_le r m j hm
            obtain ⟨⟨t', n'⟩, h3, h4⟩ := Option.map_eq_some_iff.mp h
            obtain ⟨g1, g2, g3⟩ := ih _ _ _ h3
            simp only [Prod.mk.injEq] at h4
            obtain ⟨rfl, rfl⟩ := h4
            rw [List.length_drop] at g2
            simp only [List.length_cons]
            omega
        · split at h
          · cases h
          · split at h
            · cases h
            · obtain ⟨⟨t', n'⟩, h3, h4⟩ := Option.map_eq_some_iff.mp h
              obtain ⟨g1, g2, g3⟩ := ih _ _ _ h3
              simp only [Prod.mk.injEq] at h4
              obtain ⟨rfl, rfl⟩ := h4
              simp only [List.length_cons]
              omega
def numsOf (l : List UInt8) : List Int := l.map fun c => (c.toNat : Int)
theorem strOf_nums (l : List UInt8) : strOfNums (numsOf l) = ⟨l.toArray⟩ := by
  unfold strOfNums numsOf
  congr 2
  rw [List.map_map]
  conv => rhs; rw [← List.map_id l]
  apply List.map_congr_left
  intro c _
  simp
theorem str_l0 (s : ByteArray) (hs : s.size ≤ 1000000000000) : ∀ (d k i : Nat) (acc : List UInt8) (f : Nat), i ≤ s.size → s.size - i ≤ d → d < k → d < f → acc.length ≤ i →
    (∀ t n, strL f ((bl s).drop i) = some (t, n) → token_reader_str.l0 k (numsOf acc) s i = some (2, ⟨(acc ++ t).toArray⟩, 0, 0, true, s, ((i + n : Nat) : Int))) ∧
    (strL f ((bl s).drop i) = none → ∃ p, token_reader_str.l0 k (numsOf acc) s i = some (0, ⟨#[]⟩, 0, 0, false, s, p)) := by
  intro d
  induction d with
  | zero =>
    intro k i acc f hi hd hk hf ha
    obtain ⟨k, rfl⟩ : ∃ m, k = m + 1 := ⟨k - 1, by omega⟩
    obtain ⟨f, rfl⟩ : ∃ m, f = m + 1 := ⟨f - 1, by omega⟩
    obtain rfl : i = s.size := by omega
    simp only [token_reader_str.l0]
    rw [if_neg (by omega), List.drop_of_length_le (by rw [bl_length]; omega)]
    simp [strL]
  | succ d ih =>
    intro k i acc f hi hd hk hf ha
    obtain ⟨k, rfl⟩ : ∃ m, k = m + 1 := ⟨k - 1, by omega⟩
    obtain ⟨f, rfl⟩ : ∃ m, f = m + 1 := ⟨f - 1, by omega⟩
    by_cases hlt : i < s.size
    · have hw : wrap64 ((i : Int) + 1) = ((i + 1 : Nat) : Int) := by rw [wrap_small _ (by omega) (by omega)]; omega
      have hal : (numsOf acc).length < 140737488355328 := by unfold numsOf; rw [List.length_map]; omega
      simp only [token_reader_str.l0]
      rw [if_pos (by omega), if_pos (by omega), drop_bl s i hlt, bt_nat s i hlt, hw]
      generalize hc : s[i] = c
      have e34 : ((c.toNat : Int) = 34) ↔ c = 34 := by rw [← UInt8.toNat_inj]; show _ ↔ c.toNat = 34; omega
      have e92 : ((c.toNat : Int) = 92) ↔ c = 92 := by rw [← UInt8.toNat_inj]; show _ ↔ c.toNat = 92; omega
      have e127 : ((c.toNat : Int) = 127) ↔ c = 127 := by rw [← UInt8.toNat_inj]; show _ ↔ c.toNat = 127; omega
      have e32 : ((c.toNat : Int) < 32) ↔ c < 32 := by rw [UInt8.lt_iff_toNat_lt]; show _ ↔ c.toNat < 32; omega
      simp only [e34, e92, e127, e32]
      unfold strL
      by_cases h34 : c = 34
      · rw [if_pos h34, if_pos h34]
        refine ⟨fun t n h => ?_, fun h => by cases h⟩
        simp only [Option.some.injEq, Prod.mk.injEq] at h
        obtain ⟨rfl, rfl⟩ := h
        rw [strOf_nums, List.append_nil]
      · rw [if_neg h34, if_neg h34]
        by_cases h92 : c = 92
        · rw [if_pos h92, if_pos h92]
          obtain ⟨m1, m2⟩ := mark_eq s hs k (i + 1) (by omega) (by omega)
          cases hm : markL ((bl s).drop (i + 1)) with
          | none =>
            obtain ⟨v, p, hv⟩ := m2 hm
            rw [hv]
            exact ⟨fun t n h => (by cases h), fun _ => ⟨p, by simp⟩⟩
          | some x =>
            obtain ⟨m, n⟩ := x
            rw [m1 m n hm]
            simp only [Option.bind_some, if_true]
            rw [if_pos hal]
            obtain ⟨h1, h2⟩ := markL_le _ m n hm
            rw [List.length_drop, bl_length] at h2
            have hacc : numsOf acc ++ [(m.toNat : Int)] = numsOf (acc ++ [m]) := by simp [numsOf]
            rw [hacc]
            obtain ⟨g1, g2⟩ := ih k (i + 1 + n) (acc ++ [m]) f (by omega) (by omega) (by omega) (by omega) (by simp; omega)
            rw [List.drop_drop]
            constructor
            · intro t n' h
              obtain ⟨⟨t', n2⟩, h3, h4⟩ := Option.map_eq_some_iff.mp h
              simp only [Prod.mk.injEq] at h4
              obtain ⟨rfl, rfl⟩ := h4
              rw [g1 t' n2 h3, show i + 1 + n + n2 = i + (n + 1 + n2) from by omega]
              simp only [List.append_assoc, List.singleton_append]
            · intro h
              exact g2 (Option.map_eq_none_iff.mp h)
        · rw [if_neg h92, if_neg h92]
          by_cases h32 : c < 32
          · rw [if_pos h32, if_pos h32]
            exact ⟨fun t n h => (by cases h), fun _ => ⟨_, rfl⟩⟩
          · rw [if_neg h32, if_neg h32]
            by_cases h127 : c = 127
            · rw [if_pos h127, if_pos h127]
              exact ⟨fun t n h => (by cases h), fun _ => ⟨_, rfl⟩⟩
            · rw [if_neg h127, if_neg h127, if_pos hal]
              have hacc : numsOf acc ++ [(c.toNat : Int)] = numsOf (acc ++ [c]) := by simp [numsOf]
              rw [hacc]
              obtain ⟨g1, g2⟩ := ih k (i + 1) (acc ++ [c]) f (by omega) (by omega) (by omega) (by omega) (by simp; omega)
              constructor
              · intro t n' h
                obtain ⟨⟨t', n2⟩, h3, h4⟩ := Option.map_eq_some_iff.mp h
                simp only [Prod.mk.injEq] at h4
                obtain ⟨rfl, rfl⟩ := h4
                rw [g1 t' n2 h3, show i + 1 + n2 = i + (n2 + 1) from by omega]
                simp only [List.append_assoc, List.singleton_append]
              · intro h
                exact g2 (Option.map_eq_none_iff.mp h)
    · obtain rfl : i = s.size := by omega
      simp only [token_reader_str.l0]
      rw [if_neg (by omega), List.drop_of_length_le (by rw [bl_length]; omega)]
      simp [strL]
def lex1 : List UInt8 → Option (Int × List UInt8 × Int × Nat)
  | [] => none
  | b :: r => if ofK (b.toNat : Int) = 4 then none
    else if ofK (b.toNat : Int) = 0 then some (0, (b :: r).take (runN nameU (b :: r)), 0, runN nameU (b :: r))
    else if ofK (b.toNat : Int) = 1 then (if numOk ((b :: r).take (runN numU (b :: r))) = true then some (1, (b :: r).take (runN numU (b :: r)), numV ((b :: r).take (runN numU (b :: r))), runN numU (b :: r)) else none)
    else if ofK (b.toNat : Int) = 2 then (strL (r.length + 1) r).map fun x => (2, x.1, 0, x.2 + 1)
    else some (3, [b], 0, 1)
theorem lex1_cons (b : UInt8) (r : List UInt8) : lex1 (b :: r) = if ofK (b.toNat : Int) = 4 then none
    else if ofK (b.toNat : Int) = 0 then some (0, (b :: r).take (runN nameU (b :: r)), 0, runN nameU (b :: r))
    else if ofK (b.toNat : Int) = 1 then (if numOk ((b :: r).take (runN numU (b :: r))) = true then some (1, (b :: r).take (runN numU (b :: r)), numV ((b :: r).take (runN numU (b :: r))), runN numU (b :: r)) else none)
    else if ofK (b.toNat : Int) = 2 then (strL (r.length + 1) r).map fun x => (2, x.1, 0, x.2 + 1)
    else some (3, [b], 0, 1) := rfl
theorem lex1_le (l : List UInt8) (kd : Int) (t : List UInt8) (v : Int) (n : Nat) (h : lex1 l = some (kd, t, v, n)) : 1 ≤ n ∧ n ≤ l.length := by
  cases l with
  | nil => cases h
  | cons b r =>
    have hr1 : 1 ≤ runN nameU (b :: r) := by simp [runN]
    have hr2 : 1 ≤ runN numU (b :: r) := by simp [runN]
    have hr3 := runN_le nameU (b :: r)
    have hr4 := runN_le numU (b :: r)
    rw [lex1_cons] at h
    split at h
    · cases h
    · split at h
      · simp only [Option.some.injEq, Prod.mk.injEq] at h; obtain ⟨_, _, _, rfl⟩ := h; exact ⟨hr1, hr3⟩
      · split at h
        · split at h
          · simp only [Option.some.injEq, Prod.mk.injEq] at h; obtain ⟨_, _, _, rfl⟩ := h; exact ⟨hr2, hr4⟩
          · cases h
        · split at h
          · obtain ⟨⟨t', n'⟩, h3, h4⟩ := Option.map_eq_some_iff.mp h
            simp only [Prod.mk.injEq] at h4
            obtain ⟨_, _, _, rfl⟩ := h4
            have := strL_le _ _ _ _ h3
            simp only [List.length_cons]; omega
          · simp only [Option.some.injEq, Prod.mk.injEq] at h; obtain ⟨_, _, _, rfl⟩ := h; simp
theorem tokOne_eq (s : ByteArray) (hs : s.size ≤ 1000000000000) (k i : Nat) (hi : i < s.size) (hk : s.size - i < k) :
    (∀ kd t v n, lex1 ((bl s).drop i) = some (kd, t, v, n) → ¬ ofK (bt s i) = 4 ∧ tokOne k (ofK (bt s i)) s i = some (kd, ⟨t.toArray⟩, v, 0, true, s, ((i + n : Nat) : Int))) ∧
    (lex1 ((bl s).drop i) = none → ofK (bt s i) = 4 ∨ ∃ a b c d p, tokOne k (ofK (bt s i)) s i = some (a, b, c, d, false, s, p)) := by
  have hn := name_eq s hs i hi
  have hu := num_eq s hs i hi
  have ho := one_eq s hs i hi
  have hw : wrap64 ((i : Int) + 1) = ((i + 1 : Nat) : Int) := by rw [wrap_small _ (by omega) (by omega)]; omega
  have hst : token_reader_str.f k s i = token_reader_str.l0 k (numsOf []) s ((i + 1 : Nat) : Int) := by unfold token_reader_str.f; rw [hw]; rfl
  have hl := str_l0 s hs (s.size - (i + 1)) k (i + 1) [] (((bl s).drop (i + 1)).length + 1) (by omega) (by omega) (by omega) (by rw [List.length_drop, bl_length]; omega) (by simp)
  rw [bt_nat s i hi]
  rw [drop_bl s i hi] at *
  have hq := ofK_range (s[i].toNat : Int)
  rw [lex1_cons]
  unfold tokOne
  by_cases h4 : ofK (s[i].toNat : Int) = 4
  · rw [if_pos h4]; exact ⟨fun _ _ _ _ h => (by cases h), fun _ => .inl h4⟩
  · rw [if_neg h4]
    by_cases h0 : ofK (s[i].toNat : Int) = 0
    · rw [if_pos h0, if_pos h0]
      refine ⟨fun kd t v n h => ?_, fun h => (by cases h)⟩
      simp only [Option.some.injEq, Prod.mk.injEq] at h
      obtain ⟨rfl, rfl, rfl, rfl⟩ := h
      exact ⟨h4, hn⟩
    · rw [if_neg h0, if_neg h0]
      by_cases h1 : ofK (s[i].toNat : Int) = 1
      · rw [if_pos h1, if_pos h1]
        by_cases hok : numOk ((s[i] :: (bl s).drop (i + 1)).take (runN numU (s[i] :: (bl s).drop (i + 1)))) = true
        · rw [if_pos hok]
          refine ⟨fun kd t v n h => ?_, fun h => (by cases h)⟩
          simp only [Option.some.injEq, Prod.mk.injEq] at h
          obtain ⟨rfl, rfl, rfl, rfl⟩ := h
          rw [hu, hok]
          exact ⟨h4, rfl⟩
        · rw [if_neg hok]
          rw [Bool.eq_false_iff.mpr hok] at hu
          exact ⟨fun _ _ _ _ h => (by cases h), fun _ => .inr ⟨_, _, _, _, _, hu⟩⟩
      · rw [if_neg h1, if_neg h1]
        by_cases h2 : ofK (s[i].toNat : Int) = 2
        · rw [if_pos h2, if_pos h2, hst]
          constructor
          · intro kd t v n h
            obtain ⟨⟨t', n'⟩, h3, h5⟩ := Option.map_eq_some_iff.mp h
            simp only [Prod.mk.injEq] at h5
            obtain ⟨rfl, rfl, rfl, rfl⟩ := h5
            refine ⟨h4, ?_⟩
            rw [hl.1 t' n' h3, List.nil_append, show i + 1 + n' = i + (n' + 1) from by omega]
          · intro h
            obtain ⟨p, hp⟩ := hl.2 (Option.map_eq_none_iff.mp h)
            exact .inr ⟨_, _, _, _, p, hp⟩
        · rw [if_neg h2, if_neg h2]
          refine ⟨fun kd t v n h => ?_, fun h => (by cases h)⟩
          simp only [Option.some.injEq, Prod.mk.injEq] at h
          obtain ⟨rfl, rfl, rfl, rfl⟩ := h
          exact ⟨h4, ho⟩
abbrev TokS := S29
def lexL : Nat → Nat → Nat → List UInt8 → List TokS ⊕ (Nat × Int)
  | 0, _, p, _ => .inr (p, 0)
  | _ + 1, _, _, [] => .inl []
  | f + 1, m, p, b :: r => match lex1 (b :: r) with
    | none => .inr (p, 4)
    | some (kd, t, v, n) => if m = 0 then .inr (p, 2) else
      match lexL f (m - 1) (p + n + skipN false ((b :: r).drop n)) (((b :: r).drop n).drop (skipN false ((b :: r).drop n))) with
      | .inl ts => .inl (⟨kd, ⟨t.toArray⟩, v, p⟩ :: ts)
      | .inr e => .inr e
def endL (s : ByteArray) (acc : List TokS) : List TokS ⊕ (Nat × Int) → List TokS × Int × Int
  | .inl ts => (acc ++ ts, s.size, 0)
  | .inr (p, e) => ([], p, e)
theorem tokLoop_eq (s : ByteArray) (hs : s.size ≤ 1000000000000) : ∀ (d k i m f : Nat) (acc : List TokS), i ≤ s.size → s.size - i ≤ d → d + 1 < k → d < f → acc.length + m = 1000 →
    tokLoop k s s acc i = some (endL s acc (lexL f m i ((bl s).drop i))) := by
  intro d
  induction d with
  | zero =>
    intro k i m f acc hi hd hk hf hm
    obtain ⟨k, rfl⟩ : ∃ m, k = m + 1 := ⟨k - 1, by omega⟩
    obtain ⟨f, rfl⟩ : ∃ m, f = m + 1 := ⟨f - 1, by omega⟩
    obtain rfl : i = s.size := by omega
    simp only [tokLoop]
    rw [if_neg (by omega), List.drop_of_length_le (by rw [bl_length]; omega)]
    simp [lexL, endL]
  | succ d ih =>
    intro k i m f acc hi hd hk hf hm
    obtain ⟨k, rfl⟩ : ∃ m, k = m + 1 := ⟨k - 1, by omega⟩
    obtain ⟨f, rfl⟩ : ∃ m, f = m + 1 := ⟨f - 1, by omega⟩
    by_cases hlt : i < s.size
    · simp only [tokLoop]
      rw [if_pos (by omega), if_pos (by omega)]
      obtain ⟨h1, h2⟩ := tokOne_eq s hs k i hlt (by omega)
      cases hx : lex1 ((bl s).drop i) with
      | none =>
        have e : lexL (f + 1) m i ((bl s).drop i) = .inr (i, 4) := by rw [drop_bl s i hlt] at hx ⊢; simp only [lexL, hx]
        rw [e]
        by_cases h4 : ofK (bt s i) = 4
        · rw [if_pos h4]; rfl
        · rw [if_neg h4]
          rcases h2 hx with h | ⟨a, b, c, d', p, h⟩
          · exact absurd h h4
          · rw [h]; rfl
      | some x =>
        obtain ⟨kd, t, v, n⟩ := x
        obtain ⟨h4, h5⟩ := h1 kd t v n hx
        obtain ⟨n1, n2⟩ := lex1_le _ _ _ _ _ hx
        rw [List.length_drop, bl_length] at n2
        rw [if_neg h4, h5]
        simp only [Option.bind_some]
        rw [if_neg (by simp)]
        have hsk := skip_eq s hs k (i + n) (by omega) (by omega)
        have hle := skipN_le false ((bl s).drop (i + n))
        rw [List.length_drop, bl_length] at hle
        by_cases hmm : m = 0
        · have e : lexL (f + 1) m i ((bl s).drop i) = .inr (i, 2) := by rw [drop_bl s i hlt] at hx ⊢; simp only [lexL, hx]; rw [if_pos hmm]
          rw [if_pos (by omega), e]; rfl
        · have e : lexL (f + 1) m i ((bl s).drop i) = match lexL f (m - 1) (i + n + skipN false ((bl s).drop (i + n))) ((bl s).drop (i + n + skipN false ((bl s).drop (i + n)))) with
              | .inl ts => .inl (⟨kd, ⟨t.toArray⟩, v, i⟩ :: ts)
              | .inr e => .inr e := by
            rw [← List.drop_drop, ← List.drop_drop]
            rw [drop_bl s i hlt] at hx ⊢
            simp only [lexL, hx]
            rw [if_neg hmm, show (bl s).drop (i + n) = (s[i] :: (bl s).drop (i + 1)).drop n from by rw [← drop_bl s i hlt, List.drop_drop]]
          rw [if_neg (by omega), hsk]
          simp only [Option.bind_some]
          rw [ih k _ (m - 1) f _ (by omega) (by omega) (by omega) (by omega) (by simp; omega), e]
          cases lexL f (m - 1) (i + n + skipN false ((bl s).drop (i + n))) ((bl s).drop (i + n + skipN false ((bl s).drop (i + n)))) with
          | inl ts => simp [endL]
          | inr e => rfl
    · obtain rfl : i = s.size := by omega
      simp only [tokLoop]
      rw [if_neg (by omega), List.drop_of_length_le (by rw [bl_length]; omega)]
      simp [lexL, endL]
def allL (l : List UInt8) : List TokS ⊕ (Nat × Int) := lexL (l.length + 1) 1000 (skipN false l) (l.drop (skipN false l))
def allF (s : ByteArray) : List TokS × Int × Int := if s.size > 5000 then ([], 0, 2) else endL s [] (allL (bl s))
theorem tokAll_eq (s : ByteArray) : tokAll (s.size + 3) s = some (allF s) := by
  unfold tokAll allF
  by_cases h : s.size > 5000
  · rw [if_pos (by omega), if_pos h]
  · rw [if_neg (by omega), if_neg h]
    have hsk := skip_eq s (by omega) (s.size + 3) 0 (by omega) (by omega)
    have hle := skipN_le false (bl s)
    rw [bl_length] at hle
    simp only [Int.natCast_zero, Nat.zero_add, List.drop_zero] at hsk
    rw [hsk]
    simp only [Option.bind_some]
    unfold allL
    exact tokLoop_eq s (by omega) s.size (s.size + 3) (skipN false (bl s)) 1000 ((bl s).length + 1) [] hle (by omega) (by omega) (by rw [bl_length]; omega) (by simp)
def token_All.f (a0 : ByteArray) : Option (List TokS × Int × Int) := some (allF a0)
theorem token_All.calls (a0 : ByteArray) (r1 : List S29) (r2 : Int) (r3 : Int) (w : World) (hG : GInv w) (h : token_All.f a0 = some (r1, r2, r3)) :
    Calls Tryd.prog 16 #[.string a0] w fun e w' => ∃ v0_ : Value, e = .returned (.tuple #[v0_, .int .i64 r2, .int .i64 r3]) ∧ Kd.R k29 29 w' w.heap.size (fun _ => True) v0_ r1 ∧ Below w.heap.size w w' :=
  tokAll_walk (a0.size + 3) a0 r1 r2 r3 w hG (by rw [tokAll_eq]; exact h)
end Go.Proofs.YtngcojabofkbjaaDoor.P
namespace Go.Proofs.YtngcojabofkbjaaDoor.P
open Go.RowKit Go.Proofs.YtngcojabofkbjaaDoorW.PrintWords Go.Proofs.YtngcojabofkbjaaDoorW.PrintLast Go.Proofs.YtngcojabofkbjaaDoorW.PrintMore
set_option linter.unusedVariables false
set_option linter.unusedSimpArgs false
attribute [local go_sem high] eqA29
def sexp_alone.f (a0_0 : Int) (a0_1 : ByteArray) (a0_2 : Int) (a0_3 : Int) (l0_4 : List (S39)) : Option (Bool) := (token_All.f a0_1).bind fun bt313 => (if bt313.2.2 = 0 then (if (bt313.1.length : Int) = 1 then (if 0 < (bt313.1.length : Int) then (some (((rd_T29 bt313.1 0).f0) == a0_0 && ((((rd_T29 bt313.1 0).f1).toList) == a0_1.toList && (((rd_T29 bt313.1 0).f2) == a0_2 && (((rd_T29 bt313.1 0).f3) == 0))))) else (none)) else (some false)) else (some false))
set_option maxHeartbeats 8000000 in
set_option maxRecDepth 100000 in
theorem sexp_alone.calls (a0_0 : Int) (a0_1 : ByteArray) (a0_2 : Int) (a0_3 : Int) (A0_4 : Option Addr) (c0_4 : Nat) (l0_4 : List (S39)) (r : Bool) (w : World) (hG : GInv w) (hr0_4 : Kd.C k39 w A0_4 l0_4.length l0_4) (hc0_4 : l0_4.length ≤ c0_4) (h : sexp_alone.f a0_0 a0_1 a0_2 a0_3 l0_4 = some r) :
    Calls Tryd.prog 70 #[.agg #[.int .i64 a0_0, .string a0_1, .int .i64 a0_2, .int .i64 a0_3, .slice A0_4 l0_4.length c0_4]] w fun e w' => e = .returned (.bool r) ∧ Below w.heap.size w w' := by
  have hu39 := Tryd.underlying39
  have hu29 := Tryd.underlying29
  have HR0_4 := Aside0.mk hr0_4
  have HC0_4 := Aside0.mk hc0_4
  clear hr0_4 hc0_4
  have HB := Aside0.mk (Below.refl w.heap.size w)
  have H : ((token_All.f a0_1).bind fun bt313 => (if bt313.2.2 = 0 then (if (bt313.1.length : Int) = 1 then (if 0 < (bt313.1.length : Int) then (some (((rd_T29 bt313.1 0).f0) == a0_0 && ((((rd_T29 bt313.1 0).f1).toList) == a0_1.toList && (((rd_T29 bt313.1 0).f2) == a0_2 && (((rd_T29 bt313.1 0).f3) == 0))))) else (none)) else (some false)) else (some false))) = some r := h
  clear h
  replace H := Option.bind_eq_some_iff.mp H
  obtain ⟨⟨t313, t314, t315⟩, A20, H⟩ := H
  replace H : (if t315 = 0 then (if (t313.length : Int) = 1 then (if 0 < (t313.length : Int) then (some (((rd_T29 t313 0).f0) == a0_0 && ((((rd_T29 t313 0).f1).toList) == a0_1.toList && (((rd_T29 t313 0).f2) == a0_2 && (((rd_T29 t313 0).f3) == 0))))) else (none)) else (some false)) else (some false)) = some r := H
  have A2 := Aside0.mk A20
  clear A20
  by_cases c3 : t315 = 0
  · rw [if_pos c3] at H
    have c3b0 : (t315 == 0) = true := beq_iff_eq.mpr c3
    have c3b1 : (t315 != 0) = false := bne_eq_false_iff_eq.mpr c3
    clear c3
    by_cases c4 : (t313.length : Int) = 1
    · rw [if_pos c4] at H
      have c4b0 : ((t313.length : Int) == 1) = true := beq_iff_eq.mpr c4
      have c4b1 : ((t313.length : Int) != 1) = false := bne_eq_false_iff_eq.mpr c4
      clear c4
      by_cases c5 : 0 < (t313.length : Int)
      · rw [if_pos c5] at H
        have c5b0 : decide (0 < (t313.length : Int)) = true := decide_eq_true c5
        have c5b1 : decide (0 < t313.length) = true := decide_eq_true (by omega)
        clear c5
        obtain rfl := Option.some.inj H
        go_enter Tryd.func70, Tryd.ntmps70
        go_wp2_with (first | ((with_reducible refine gate_dst (N := 1) rfl ?_); (try (refine gate_guard (by rfl) ?_; dsimp only)); refine box_event ?hg (N := 1) ?hd (cs := #[.int .i64 a0_0, .string a0_1, .int .i64 a0_2, .int .i64 a0_3, .slice A0_4 l0_4.length c0_4]) (t := 39) ?hr ?_; (case hd => rfl); (case hg => rfl); (case hr => first | (go_simp; done) | (go_simp; rfl)); intro gb312 hg w6 hbox hb; have n0_ := Aside0.mk (below_step (by repeat (first | (with_reducible first | exact HB.out | apply below_alloc | apply pw_below_drewN | apply below_drew1) | exact HB.out)) hb); have n1_ := Aside0.mk (hbox); have n2_ := Aside0.mk ((by rw [hg]; exact (below_size (by repeat (first | (with_reducible first | exact HB.out | apply below_alloc | apply pw_below_drewN | apply below_drew1) | exact HB.out))) : w.heap.size ≤ gb312)); have n3_ := Aside0.mk ((by rw [hg]; exact (below_size (by repeat (first | (with_reducible first | exact HB.out | apply below_alloc | apply pw_below_drewN | apply below_drew1) | exact HB.out))) : w.heap.size ≤ gb312)); clear HB; have HB := n0_; have BK312 := n1_; have GW312 := n2_; have GE312 := n3_; clear n0_ n1_ n2_ n3_; clear hb hbox hg; have hcz7_0 : w6.cell? ⟨gb312, 0, none⟩ = some (.int .i64 a0_0) := (blk_cell BK312.out 0).trans rfl; have hcz7_1 : w6.cell? ⟨gb312, 1, none⟩ = some (.string a0_1) := (blk_cell BK312.out 1).trans rfl; have hcz7_2 : w6.cell? ⟨gb312, 2, none⟩ = some (.int .i64 a0_2) := (blk_cell BK312.out 2).trans rfl; have hcz7_3 : w6.cell? ⟨gb312, 3, none⟩ = some (.int .i64 a0_3) := (blk_cell BK312.out 3).trans rfl; have hcz7_4 : w6.cell? ⟨gb312, 4, none⟩ = some (.slice A0_4 l0_4.length c0_4) := (blk_cell BK312.out 4).trans rfl; have hfz7_0 := blk_frozen BK312.out 0; have hfz7_1 := blk_frozen BK312.out 1; have hfz7_2 := blk_frozen BK312.out 2; have hfz7_3 := blk_frozen BK312.out 3; have hfz7_4 := blk_frozen BK312.out 4) | (go_at_call 16; (with_reducible refine (token_All.calls a0_1 t313 t314 t315 _ ?side1 A2.out).mono ?_); (case side1 => exact hG.below (by repeat (first | (with_reducible first | exact HB.out | apply below_alloc | apply pw_below_drewN | apply below_drew1 | refine below_set ?_ GE312.out) | exact HB.out))); rintro e w8 ⟨v316, rfl, ho0, hb⟩; have n0_ := Aside0.mk (Kd.R_lower ho0 (below_size (by repeat (first | (with_reducible first | exact HB.out | apply below_alloc | apply pw_below_drewN | apply below_drew1 | refine below_set ?_ GE312.out) | exact HB.out)))); have n1_ := Aside0.mk (blk_below (g := gb312) (o := .cells #[.int .i64 a0_0, .string a0_1, .int .i64 a0_2, .int .i64 a0_3, .slice A0_4 l0_4.length c0_4] 39 (0, 0)) (by (with_reducible repeat (first | refine blk_drewN ?_ _ | refine blk_drew ?_ | refine blk_alloc ?_ _)); exact BK312.out) hb); have n2_ := Aside0.mk (below_step (by repeat (first | (with_reducible first | exact HB.out | apply below_alloc | apply pw_below_drewN | apply below_drew1 | refine below_set ?_ GE312.out) | exact HB.out)) hb); clear BK312; clear HB; have HO317 := n0_; have BK312 := n1_; have HB := n2_; clear n0_ n1_ n2_; (try clear hb); (try clear hb2); (try clear hk); (try clear hi); (try clear ho0); obtain ⟨Ao9, co9, eo9⟩ := Kd.R_slice HO317.out; subst eo9; have p318 : 0 ≤ (0 : Int) := (by omega); have q318 : 0 < (t313.length : Int) := of_decide_eq_true (by first | (with_reducible assumption) | assumption); obtain ⟨ad318, e318, hx318_0, hx318_1, hx318_2, hx318_3⟩ := at_T29 (Kd.R_reads' HO317.out).2.2 0 p318 q318; cases e318; have qi318 : (0 < t313.length) = True := eq_true (by omega); (try rw [show ((0 : Int)).toNat = 0 from rfl] at hx318_0); (try rw [show 0 * 4 = 0 from rfl] at hx318_0); (try rw [Addr.add_zero'] at hx318_0); (try rw [show ((0 : Int)).toNat = 0 from rfl] at hx318_1); (try rw [show 0 * 4 = 0 from rfl] at hx318_1); (try rw [Addr.add_zero'] at hx318_1); (try rw [show ((0 : Int)).toNat = 0 from rfl] at hx318_2); (try rw [show 0 * 4 = 0 from rfl] at hx318_2); (try rw [Addr.add_zero'] at hx318_2); (try rw [show ((0 : Int)).toNat = 0 from rfl] at hx318_3); (try rw [show 0 * 4 = 0 from rfl] at hx318_3); (try rw [Addr.add_zero'] at hx318_3); replace p318 := eq_true p318; replace q318 := eq_true q318; have hcz10_0 : w8.cell? ⟨gb312, 0, none⟩ = some (.int .i64 a0_0) := (blk_cell BK312.out 0).trans rfl; have hcz10_1 : w8.cell? ⟨gb312, 1, none⟩ = some (.string a0_1) := (blk_cell BK312.out 1).trans rfl; have hcz10_2 : w8.cell? ⟨gb312, 2, none⟩ = some (.int .i64 a0_2) := (blk_cell BK312.out 2).trans rfl; have hcz10_3 : w8.cell? ⟨gb312, 3, none⟩ = some (.int .i64 a0_3) := (blk_cell BK312.out 3).trans rfl; have hcz10_4 : w8.cell? ⟨gb312, 4, none⟩ = some (.slice A0_4 l0_4.length c0_4) := (blk_cell BK312.out 4).trans rfl; have hfz10_0 := blk_frozen BK312.out 0; have hfz10_1 := blk_frozen BK312.out 1; have hfz10_2 := blk_frozen BK312.out 2; have hfz10_3 := blk_frozen BK312.out 3; have hfz10_4 := blk_frozen BK312.out 4))
        repeat (go_quiet (first | ((with_reducible refine gate_dst (N := 1) rfl ?_); (try (refine gate_guard (by rfl) ?_; dsimp only)); refine box_event ?hg (N := 1) ?hd (cs := #[.int .i64 a0_0, .string a0_1, .int .i64 a0_2, .int .i64 a0_3, .slice A0_4 l0_4.length c0_4]) (t := 39) ?hr ?_; (case hd => rfl); (case hg => rfl); (case hr => first | (go_simp; done) | (go_simp; rfl)); intro gb312 hg w6 hbox hb; have n0_ := Aside0.mk (below_step (by repeat (first | (with_reducible first | exact HB.out | apply below_alloc | apply pw_below_drewN | apply below_drew1) | exact HB.out)) hb); have n1_ := Aside0.mk (hbox); have n2_ := Aside0.mk ((by rw [hg]; exact (below_size (by repeat (first | (with_reducible first | exact HB.out | apply below_alloc | apply pw_below_drewN | apply below_drew1) | exact HB.out))) : w.heap.size ≤ gb312)); have n3_ := Aside0.mk ((by rw [hg]; exact (below_size (by repeat (first | (with_reducible first | exact HB.out | apply below_alloc | apply pw_below_drewN | apply below_drew1) | exact HB.out))) : w.heap.size ≤ gb312)); clear HB; have HB := n0_; have BK312 := n1_; have GW312 := n2_; have GE312 := n3_; clear n0_ n1_ n2_ n3_; clear hb hbox hg; have hcz7_0 : w6.cell? ⟨gb312, 0, none⟩ = some (.int .i64 a0_0) := (blk_cell BK312.out 0).trans rfl; have hcz7_1 : w6.cell? ⟨gb312, 1, none⟩ = some (.string a0_1) := (blk_cell BK312.out 1).trans rfl; have hcz7_2 : w6.cell? ⟨gb312, 2, none⟩ = some (.int .i64 a0_2) := (blk_cell BK312.out 2).trans rfl; have hcz7_3 : w6.cell? ⟨gb312, 3, none⟩ = some (.int .i64 a0_3) := (blk_cell BK312.out 3).trans rfl; have hcz7_4 : w6.cell? ⟨gb312, 4, none⟩ = some (.slice A0_4 l0_4.length c0_4) := (blk_cell BK312.out 4).trans rfl; have hfz7_0 := blk_frozen BK312.out 0; have hfz7_1 := blk_frozen BK312.out 1; have hfz7_2 := blk_frozen BK312.out 2; have hfz7_3 := blk_frozen BK312.out 3; have hfz7_4 := blk_frozen BK312.out 4) | (go_at_call 16; (with_reducible refine (token_All.calls a0_1 t313 t314 t315 _ ?side1 A2.out).mono ?_); (case side1 => exact hG.below (by repeat (first | (with_reducible first | exact HB.out | apply below_alloc | apply pw_below_drewN | apply below_drew1 | refine below_set ?_ GE312.out) | exact HB.out))); rintro e w8 ⟨v316, rfl, ho0, hb⟩; have n0_ := Aside0.mk (Kd.R_lower ho0 (below_size (by repeat (first | (with_reducible first | exact HB.out | apply below_alloc | apply pw_below_drewN | apply below_drew1 | refine below_set ?_ GE312.out) | exact HB.out)))); have n1_ := Aside0.mk (blk_below (g := gb312) (o := .cells #[.int .i64 a0_0, .string a0_1, .int .i64 a0_2, .int .i64 a0_3, .slice A0_4 l0_4.length c0_4] 39 (0, 0)) (by (with_reducible repeat (first | refine blk_drewN ?_ _ | refine blk_drew ?_ | refine blk_alloc ?_ _)); exact BK312.out) hb); have n2_ := Aside0.mk (below_step (by repeat (first | (with_reducible first | exact HB.out | apply below_alloc | apply pw_below_drewN | apply below_drew1 | refine below_set ?_ GE312.out) | exact HB.out)) hb); clear BK312; clear HB; have HO317 := n0_; have BK312 := n1_; have HB := n2_; clear n0_ n1_ n2_; (try clear hb); (try clear hb2); (try clear hk); (try clear hi); (try clear ho0); obtain ⟨Ao9, co9, eo9⟩ := Kd.R_slice HO317.out; subst eo9; have p318 : 0 ≤ (0 : Int) := (by omega); have q318 : 0 < (t313.length : Int) := of_decide_eq_true (by first | (with_reducible assumption) | assumption); obtain ⟨ad318, e318, hx318_0, hx318_1, hx318_2, hx318_3⟩ := at_T29 (Kd.R_reads' HO317.out).2.2 0 p318 q318; cases e318; have qi318 : (0 < t313.length) = True := eq_true (by omega); (try rw [show ((0 : Int)).toNat = 0 from rfl] at hx318_0); (try rw [show 0 * 4 = 0 from rfl] at hx318_0); (try rw [Addr.add_zero'] at hx318_0); (try rw [show ((0 : Int)).toNat = 0 from rfl] at hx318_1); (try rw [show 0 * 4 = 0 from rfl] at hx318_1); (try rw [Addr.add_zero'] at hx318_1); (try rw [show ((0 : Int)).toNat = 0 from rfl] at hx318_2); (try rw [show 0 * 4 = 0 from rfl] at hx318_2); (try rw [Addr.add_zero'] at hx318_2); (try rw [show ((0 : Int)).toNat = 0 from rfl] at hx318_3); (try rw [show 0 * 4 = 0 from rfl] at hx318_3); (try rw [Addr.add_zero'] at hx318_3); replace p318 := eq_true p318; replace q318 := eq_true q318; have hcz10_0 : w8.cell? ⟨gb312, 0, none⟩ = some (.int .i64 a0_0) := (blk_cell BK312.out 0).trans rfl; have hcz10_1 : w8.cell? ⟨gb312, 1, none⟩ = some (.string a0_1) := (blk_cell BK312.out 1).trans rfl; have hcz10_2 : w8.cell? ⟨gb312, 2, none⟩ = some (.int .i64 a0_2) := (blk_cell BK312.out 2).trans rfl; have hcz10_3 : w8.cell? ⟨gb312, 3, none⟩ = some (.int .i64 a0_3) := (blk_cell BK312.out 3).trans rfl; have hcz10_4 : w8.cell? ⟨gb312, 4, none⟩ = some (.slice A0_4 l0_4.length c0_4) := (blk_cell BK312.out 4).trans rfl; have hfz10_0 := blk_frozen BK312.out 0; have hfz10_1 := blk_frozen BK312.out 1; have hfz10_2 := blk_frozen BK312.out 2; have hfz10_3 := blk_frozen BK312.out 3; have hfz10_4 := blk_frozen BK312.out 4)); try go_wp2_with (first | ((with_reducible refine gate_dst (N := 1) rfl ?_); (try (refine gate_guard (by rfl) ?_; dsimp only)); refine box_event ?hg (N := 1) ?hd (cs := #[.int .i64 a0_0, .string a0_1, .int .i64 a0_2, .int .i64 a0_3, .slice A0_4 l0_4.length c0_4]) (t := 39) ?hr ?_; (case hd => rfl); (case hg => rfl); (case hr => first | (go_simp; done) | (go_simp; rfl)); intro gb312 hg w6 hbox hb; have n0_ := Aside0.mk (below_step (by repeat (first | (with_reducible first | exact HB.out | apply below_alloc | apply pw_below_drewN | apply below_drew1) | exact HB.out)) hb); have n1_ := Aside0.mk (hbox); have n2_ := Aside0.mk ((by rw [hg]; exact (below_size (by repeat (first | (with_reducible first | exact HB.out | apply below_alloc | apply pw_below_drewN | apply below_drew1) | exact HB.out))) : w.heap.size ≤ gb312)); have n3_ := Aside0.mk ((by rw [hg]; exact (below_size (by repeat (first | (with_reducible first | exact HB.out | apply below_alloc | apply pw_below_drewN | apply below_drew1) | exact HB.out))) : w.heap.size ≤ gb312)); clear HB; have HB := n0_; have BK312 := n1_; have GW312 := n2_; have GE312 := n3_; clear n0_ n1_ n2_ n3_; clear hb hbox hg; have hcz7_0 : w6.cell? ⟨gb312, 0, none⟩ = some (.int .i64 a0_0) := (blk_cell BK312.out 0).trans rfl; have hcz7_1 : w6.cell? ⟨gb312, 1, none⟩ = some (.string a0_1) := (blk_cell BK312.out 1).trans rfl; have hcz7_2 : w6.cell? ⟨gb312, 2, none⟩ = some (.int .i64 a0_2) := (blk_cell BK312.out 2).trans rfl; have hcz7_3 : w6.cell? ⟨gb312, 3, none⟩ = some (.int .i64 a0_3) := (blk_cell BK312.out 3).trans rfl; have hcz7_4 : w6.cell? ⟨gb312, 4, none⟩ = some (.slice A0_4 l0_4.length c0_4) := (blk_cell BK312.out 4).trans rfl; have hfz7_0 := blk_frozen BK312.out 0; have hfz7_1 := blk_frozen BK312.out 1; have hfz7_2 := blk_frozen BK312.out 2; have hfz7_3 := blk_frozen BK312.out 3; have hfz7_4 := blk_frozen BK312.out 4) | (go_at_call 16; (with_reducible refine (token_All.calls a0_1 t313 t314 t315 _ ?side1 A2.out).mono ?_); (case side1 => exact hG.below (by repeat (first | (with_reducible first | exact HB.out | apply below_alloc | apply pw_below_drewN | apply below_drew1 | refine below_set ?_ GE312.out) | exact HB.out))); rintro e w8 ⟨v316, rfl, ho0, hb⟩; have n0_ := Aside0.mk (Kd.R_lower ho0 (below_size (by repeat (first | (with_reducible first | exact HB.out | apply below_alloc | apply pw_below_drewN | apply below_drew1 | refine below_set ?_ GE312.out) | exact HB.out)))); have n1_ := Aside0.mk (blk_below (g := gb312) (o := .cells #[.int .i64 a0_0, .string a0_1, .int .i64 a0_2, .int .i64 a0_3, .slice A0_4 l0_4.length c0_4] 39 (0, 0)) (by (with_reducible repeat (first | refine blk_drewN ?_ _ | refine blk_drew ?_ | refine blk_alloc ?_ _)); exact BK312.out) hb); have n2_ := Aside0.mk (below_step (by repeat (first | (with_reducible first | exact HB.out | apply below_alloc | apply pw_below_drewN | apply below_drew1 | refine below_set ?_ GE312.out) | exact HB.out)) hb); clear BK312; clear HB; have HO317 := n0_; have BK312 := n1_; have HB := n2_; clear n0_ n1_ n2_; (try clear hb); (try clear hb2); (try clear hk); (try clear hi); (try clear ho0); obtain ⟨Ao9, co9, eo9⟩ := Kd.R_slice HO317.out; subst eo9; have p318 : 0 ≤ (0 : Int) := (by omega); have q318 : 0 < (t313.length : Int) := of_decide_eq_true (by first | (with_reducible assumption) | assumption); obtain ⟨ad318, e318, hx318_0, hx318_1, hx318_2, hx318_3⟩ := at_T29 (Kd.R_reads' HO317.out).2.2 0 p318 q318; cases e318; have qi318 : (0 < t313.length) = True := eq_true (by omega); (try rw [show ((0 : Int)).toNat = 0 from rfl] at hx318_0); (try rw [show 0 * 4 = 0 from rfl] at hx318_0); (try rw [Addr.add_zero'] at hx318_0); (try rw [show ((0 : Int)).toNat = 0 from rfl] at hx318_1); (try rw [show 0 * 4 = 0 from rfl] at hx318_1); (try rw [Addr.add_zero'] at hx318_1); (try rw [show ((0 : Int)).toNat = 0 from rfl] at hx318_2); (try rw [show 0 * 4 = 0 from rfl] at hx318_2); (try rw [Addr.add_zero'] at hx318_2); (try rw [show ((0 : Int)).toNat = 0 from rfl] at hx318_3); (try rw [show 0 * 4 = 0 from rfl] at hx318_3); (try rw [Addr.add_zero'] at hx318_3); replace p318 := eq_true p318; replace q318 := eq_true q318; have hcz10_0 : w8.cell? ⟨gb312, 0, none⟩ = some (.int .i64 a0_0) := (blk_cell BK312.out 0).trans rfl; have hcz10_1 : w8.cell? ⟨gb312, 1, none⟩ = some (.string a0_1) := (blk_cell BK312.out 1).trans rfl; have hcz10_2 : w8.cell? ⟨gb312, 2, none⟩ = some (.int .i64 a0_2) := (blk_cell BK312.out 2).trans rfl; have hcz10_3 : w8.cell? ⟨gb312, 3, none⟩ = some (.int .i64 a0_3) := (blk_cell BK312.out 3).trans rfl; have hcz10_4 : w8.cell? ⟨gb312, 4, none⟩ = some (.slice A0_4 l0_4.length c0_4) := (blk_cell BK312.out 4).trans rfl; have hfz10_0 := blk_frozen BK312.out 0; have hfz10_1 := blk_frozen BK312.out 1; have hfz10_2 := blk_frozen BK312.out 2; have hfz10_3 := blk_frozen BK312.out 3; have hfz10_4 := blk_frozen BK312.out 4)))
        go_ret
        exact ⟨by first | rfl | (simp [] <;> rfl) | (simp [*] <;> rfl), by repeat (first | (with_reducible first | exact HB.out | apply below_alloc | apply pw_below_drewN | apply below_drew1 | refine below_set ?_ GE312.out) | exact HB.out)⟩
      · rw [if_neg c5] at H
        exact absurd H (by simp)
    · rw [if_neg c4] at H
      have c4b0 : ((t313.length : Int) == 1) = false := beq_eq_false_iff_ne.mpr c4
      have c4b1 : ((t313.length : Int) != 1) = true := bne_iff_ne.mpr c4
      obtain rfl := Option.some.inj H
      go_enter Tryd.func70, Tryd.ntmps70
      go_wp2_with (first | ((with_reducible refine gate_dst (N := 1) rfl ?_); (try (refine gate_guard (by rfl) ?_; dsimp only)); refine box_event ?hg (N := 1) ?hd (cs := #[.int .i64 a0_0, .string a0_1, .int .i64 a0_2, .int .i64 a0_3, .slice A0_4 l0_4.length c0_4]) (t := 39) ?hr ?_; (case hd => rfl); (case hg => rfl); (case hr => first | (go_simp; done) | (go_simp; rfl)); intro gb312 hg w11 hbox hb; have n0_ := Aside0.mk (below_step (by repeat (first | (with_reducible first | exact HB.out | apply below_alloc | apply pw_below_drewN | apply below_drew1) | exact HB.out)) hb); have n1_ := Aside0.mk (hbox); have n2_ := Aside0.mk ((by rw [hg]; exact (below_size (by repeat (first | (with_reducible first | exact HB.out | apply below_alloc | apply pw_below_drewN | apply below_drew1) | exact HB.out))) : w.heap.size ≤ gb312)); have n3_ := Aside0.mk ((by rw [hg]; exact (below_size (by repeat (first | (with_reducible first | exact HB.out | apply below_alloc | apply pw_below_drewN | apply below_drew1) | exact HB.out))) : w.heap.size ≤ gb312)); clear HB; have HB := n0_; have BK312 := n1_; have GW312 := n2_; have GE312 := n3_; clear n0_ n1_ n2_ n3_; clear hb hbox hg; have hcz12_0 : w11.cell? ⟨gb312, 0, none⟩ = some (.int .i64 a0_0) := (blk_cell BK312.out 0).trans rfl; have hcz12_1 : w11.cell? ⟨gb312, 1, none⟩ = some (.string a0_1) := (blk_cell BK312.out 1).trans rfl; have hcz12_2 : w11.cell? ⟨gb312, 2, none⟩ = some (.int .i64 a0_2) := (blk_cell BK312.out 2).trans rfl; have hcz12_3 : w11.cell? ⟨gb312, 3, none⟩ = some (.int .i64 a0_3) := (blk_cell BK312.out 3).trans rfl; have hcz12_4 : w11.cell? ⟨gb312, 4, none⟩ = some (.slice A0_4 l0_4.length c0_4) := (blk_cell BK312.out 4).trans rfl; have hfz12_0 := blk_frozen BK312.out 0; have hfz12_1 := blk_frozen BK312.out 1; have hfz12_2 := blk_frozen BK312.out 2; have hfz12_3 := blk_frozen BK312.out 3; have hfz12_4 := blk_frozen BK312.out 4) | (go_at_call 16; (with_reducible refine (token_All.calls a0_1 t313 t314 t315 _ ?side1 A2.out).mono ?_); (case side1 => exact hG.below (by repeat (first | (with_reducible first | exact HB.out | apply below_alloc | apply pw_below_drewN | apply below_drew1 | refine below_set ?_ GE312.out) | exact HB.out))); rintro e w13 ⟨v316, rfl, ho0, hb⟩; have n0_ := Aside0.mk (Kd.R_lower ho0 (below_size (by repeat (first | (with_reducible first | exact HB.out | apply below_alloc | apply pw_below_drewN | apply below_drew1 | refine below_set ?_ GE312.out) | exact HB.out)))); have n1_ := Aside0.mk (blk_below (g := gb312) (o := .cells #[.int .i64 a0_0, .string a0_1, .int .i64 a0_2, .int .i64 a0_3, .slice A0_4 l0_4.length c0_4] 39 (0, 0)) (by (with_reducible repeat (first | refine blk_drewN ?_ _ | refine blk_drew ?_ | refine blk_alloc ?_ _)); exact BK312.out) hb); have n2_ := Aside0.mk (below_step (by repeat (first | (with_reducible first | exact HB.out | apply below_alloc | apply pw_below_drewN | apply below_drew1 | refine below_set ?_ GE312.out) | exact HB.out)) hb); clear BK312; clear HB; have HO317 := n0_; have BK312 := n1_; have HB := n2_; clear n0_ n1_ n2_; (try clear hb); (try clear hb2); (try clear hk); (try clear hi); (try clear ho0); obtain ⟨Ao14, co14, eo14⟩ := Kd.R_slice HO317.out; subst eo14))
      repeat (go_quiet (first | ((with_reducible refine gate_dst (N := 1) rfl ?_); (try (refine gate_guard (by rfl) ?_; dsimp only)); refine box_event ?hg (N := 1) ?hd (cs := #[.int .i64 a0_0, .string a0_1, .int .i64 a0_2, .int .i64 a0_3, .slice A0_4 l0_4.length c0_4]) (t := 39) ?hr ?_; (case hd => rfl); (case hg => rfl); (case hr => first | (go_simp; done) | (go_simp; rfl)); intro gb312 hg w11 hbox hb; have n0_ := Aside0.mk (below_step (by repeat (first | (with_reducible first | exact HB.out | apply below_alloc | apply pw_below_drewN | apply below_drew1) | exact HB.out)) hb); have n1_ := Aside0.mk (hbox); have n2_ := Aside0.mk ((by rw [hg]; exact (below_size (by repeat (first | (with_reducible first | exact HB.out | apply below_alloc | apply pw_below_drewN | apply below_drew1) | exact HB.out))) : w.heap.size ≤ gb312)); have n3_ := Aside0.mk ((by rw [hg]; exact (below_size (by repeat (first | (with_reducible first | exact HB.out | apply below_alloc | apply pw_below_drewN | apply below_drew1) | exact HB.out))) : w.heap.size ≤ gb312)); clear HB; have HB := n0_; have BK312 := n1_; have GW312 := n2_; have GE312 := n3_; clear n0_ n1_ n2_ n3_; clear hb hbox hg; have hcz12_0 : w11.cell? ⟨gb312, 0, none⟩ = some (.int .i64 a0_0) := (blk_cell BK312.out 0).trans rfl; have hcz12_1 : w11.cell? ⟨gb312, 1, none⟩ = some (.string a0_1) := (blk_cell BK312.out 1).trans rfl; have hcz12_2 : w11.cell? ⟨gb312, 2, none⟩ = some (.int .i64 a0_2) := (blk_cell BK312.out 2).trans rfl; have hcz12_3 : w11.cell? ⟨gb312, 3, none⟩ = some (.int .i64 a0_3) := (blk_cell BK312.out 3).trans rfl; have hcz12_4 : w11.cell? ⟨gb312, 4, none⟩ = some (.slice A0_4 l0_4.length c0_4) := (blk_cell BK312.out 4).trans rfl; have hfz12_0 := blk_frozen BK312.out 0; have hfz12_1 := blk_frozen BK312.out 1; have hfz12_2 := blk_frozen BK312.out 2; have hfz12_3 := blk_frozen BK312.out 3; have hfz12_4 := blk_frozen BK312.out 4) | (go_at_call 16; (with_reducible refine (token_All.calls a0_1 t313 t314 t315 _ ?side1 A2.out).mono ?_); (case side1 => exact hG.below (by repeat (first | (with_reducible first | exact HB.out | apply below_alloc | apply pw_below_drewN | apply below_drew1 | refine below_set ?_ GE312.out) | exact HB.out))); rintro e w13 ⟨v316, rfl, ho0, hb⟩; have n0_ := Aside0.mk (Kd.R_lower ho0 (below_size (by repeat (first | (with_reducible first | exact HB.out | apply below_alloc | apply pw_below_drewN | apply below_drew1 | refine below_set ?_ GE312.out) | exact HB.out)))); have n1_ := Aside0.mk (blk_below (g := gb312) (o := .cells #[.int .i64 a0_0, .string a0_1, .int .i64 a0_2, .int .i64 a0_3, .slice A0_4 l0_4.length c0_4] 39 (0, 0)) (by (with_reducible repeat (first | refine blk_drewN ?_ _ | refine blk_drew ?_ | refine blk_alloc ?_ _)); exact BK312.out) hb); have n2_ := Aside0.mk (below_step (by repeat (first | (with_reducible first | exact HB.out | apply below_alloc | apply pw_below_drewN | apply below_drew1 | refine below_set ?_ GE312.out) | exact HB.out)) hb); clear BK312; clear HB; have HO317 := n0_; have BK312 := n1_; have HB := n2_; clear n0_ n1_ n2_; (try clear hb); (try clear hb2); (try clear hk); (try clear hi); (try clear ho0); obtain ⟨Ao14, co14, eo14⟩ := Kd.R_slice HO317.out; subst eo14)); try go_wp2_with (first | ((with_reducible refine gate_dst (N := 1) rfl ?_); (try (refine gate_guard (by rfl) ?_; dsimp only)); refine box_event ?hg (N := 1) ?hd (cs := #[.int .i64 a0_0, .string a0_1, .int .i64 a0_2, .int .i64 a0_3, .slice A0_4 l0_4.length c0_4]) (t := 39) ?hr ?_; (case hd => rfl); (case hg => rfl); (case hr => first | (go_simp; done) | (go_simp; rfl)); intro gb312 hg w11 hbox hb; have n0_ := Aside0.mk (below_step (by repeat (first | (with_reducible first | exact HB.out | apply below_alloc | apply pw_below_drewN | apply below_drew1) | exact HB.out)) hb); have n1_ := Aside0.mk (hbox); have n2_ := Aside0.mk ((by rw [hg]; exact (below_size (by repeat (first | (with_reducible first | exact HB.out | apply below_alloc | apply pw_below_drewN | apply below_drew1) | exact HB.out))) : w.heap.size ≤ gb312)); have n3_ := Aside0.mk ((by rw [hg]; exact (below_size (by repeat (first | (with_reducible first | exact HB.out | apply below_alloc | apply pw_below_drewN | apply below_drew1) | exact HB.out))) : w.heap.size ≤ gb312)); clear HB; have HB := n0_; have BK312 := n1_; have GW312 := n2_; have GE312 := n3_; clear n0_ n1_ n2_ n3_; clear hb hbox hg; have hcz12_0 : w11.cell? ⟨gb312, 0, none⟩ = some (.int .i64 a0_0) := (blk_cell BK312.out 0).trans rfl; have hcz12_1 : w11.cell? ⟨gb312, 1, none⟩ = some (.string a0_1) := (blk_cell BK312.out 1).trans rfl; have hcz12_2 : w11.cell? ⟨gb312, 2, none⟩ = some (.int .i64 a0_2) := (blk_cell BK312.out 2).trans rfl; have hcz12_3 : w11.cell? ⟨gb312, 3, none⟩ = some (.int .i64 a0_3) := (blk_cell BK312.out 3).trans rfl; have hcz12_4 : w11.cell? ⟨gb312, 4, none⟩ = some (.slice A0_4 l0_4.length c0_4) := (blk_cell BK312.out 4).trans rfl; have hfz12_0 := blk_frozen BK312.out 0; have hfz12_1 := blk_frozen BK312.out 1; have hfz12_2 := blk_frozen BK312.out 2; have hfz12_3 := blk_frozen BK312.out 3; have hfz12_4 := blk_frozen BK312.out 4) | (go_at_call 16; (with_reducible refine (token_All.calls a0_1 t313 t314 t315 _ ?side1 A2.out).mono ?_); (case side1 => exact hG.below (by repeat (first | (with_reducible first | exact HB.out | apply below_alloc | apply pw_below_drewN | apply below_drew1 | refine below_set ?_ GE312.out) | exact HB.out))); rintro e w13 ⟨v316, rfl, ho0, hb⟩; have n0_ := Aside0.mk (Kd.R_lower ho0 (below_size (by repeat (first | (with_reducible first | exact HB.out | apply below_alloc | apply pw_below_drewN | apply below_drew1 | refine below_set ?_ GE312.out) | exact HB.out)))); have n1_ := Aside0.mk (blk_below (g := gb312) (o := .cells #[.int .i64 a0_0, .string a0_1, .int .i64 a0_2, .int .i64 a0_3, .slice A0_4 l0_4.length c0_4] 39 (0, 0)) (by (with_reducible repeat (first | refine blk_drewN ?_ _ | refine blk_drew ?_ | refine blk_alloc ?_ _)); exact BK312.out) hb); have n2_ := Aside0.mk (below_step (by repeat (first | (with_reducible first | exact HB.out | apply below_alloc | apply pw_below_drewN | apply below_drew1 | refine below_set ?_ GE312.out) | exact HB.out)) hb); clear BK312; clear HB; have HO317 := n0_; have BK312 := n1_; have HB := n2_; clear n0_ n1_ n2_; (try clear hb); (try clear hb2); (try clear hk); (try clear hi); (try clear ho0); obtain ⟨Ao14, co14, eo14⟩ := Kd.R_slice HO317.out; subst eo14)))
      go_ret
      exact ⟨by first | rfl | (simp [] <;> rfl) | (simp [*] <;> rfl), by repeat (first | (with_reducible first | exact HB.out | apply below_alloc | apply pw_below_drewN | apply below_drew1 | refine below_set ?_ GE312.out) | exact HB.out)⟩
  · rw [if_neg c3] at H
    have c3b0 : (t315 == 0) = false := beq_eq_false_iff_ne.mpr c3
    have c3b1 : (t315 != 0) = true := bne_iff_ne.mpr c3
    obtain rfl := Option.some.inj H
    go_enter Tryd.func70, Tryd.ntmps70
    go_wp2_with (first | ((with_reducible refine gate_dst (N := 1) rfl ?_); (try (refine gate_guard (by rfl) ?_; dsimp only)); refine box_event ?hg (N := 1) ?hd (cs := #[.int .i64 a0_0, .string a0_1, .int .i64 a0_2, .int .i64 a0_3, .slice A0_4 l0_4.length c0_4]) (t := 39) ?hr ?_; (case hd => rfl); (case hg => rfl); (case hr => first | (go_simp; done) | (go_simp; rfl)); intro gb312 hg w15 hbox hb; have n0_ := Aside0.mk (below_step (by repeat (first | (with_reducible first | exact HB.out | apply below_alloc | apply pw_below_drewN | apply below_drew1) | exact HB.out)) hb); have n1_ := Aside0.mk (hbox); have n2_ := Aside0.mk ((by rw [hg]; exact (below_size (by repeat (first | (with_reducible first | exact HB.out | apply below_alloc | apply pw_below_drewN | apply below_drew1) | exact HB.out))) : w.heap.size ≤ gb312)); have n3_ := Aside0.mk ((by rw [hg]; exact (below_size (by repeat (first | (with_reducible first | exact HB.out | apply below_alloc | apply pw_below_drewN | apply below_drew1) | exact HB.out))) : w.heap.size ≤ gb312)); clear HB; have HB := n0_; have BK312 := n1_; have GW312 := n2_; have GE312 := n3_; clear n0_ n1_ n2_ n3_; clear hb hbox hg; have hcz16_0 : w15.cell? ⟨gb312, 0, none⟩ = some (.int .i64 a0_0) := (blk_cell BK312.out 0).trans rfl; have hcz16_1 : w15.cell? ⟨gb312, 1, none⟩ = some (.string a0_1) := (blk_cell BK312.out 1).trans rfl; have hcz16_2 : w15.cell? ⟨gb312, 2, none⟩ = some (.int .i64 a0_2) := (blk_cell BK312.out 2).trans rfl; have hcz16_3 : w15.cell? ⟨gb312, 3, none⟩ = some (.int .i64 a0_3) := (blk_cell BK312.out 3).trans rfl; have hcz16_4 : w15.cell? ⟨gb312, 4, none⟩ = some (.slice A0_4 l0_4.length c0_4) := (blk_cell BK312.out 4).trans rfl; have hfz16_0 := blk_frozen BK312.out 0; have hfz16_1 := blk_frozen BK312.out 1; have hfz16_2 := blk_frozen BK312.out 2; have hfz16_3 := blk_frozen BK312.out 3; have hfz16_4 := blk_frozen BK312.out 4) | (go_at_call 16; (with_reducible refine (token_All.calls a0_1 t313 t314 t315 _ ?side1 A2.out).mono ?_); (case side1 => exact hG.below (by repeat (first | (with_reducible first | exact HB.out | apply below_alloc | apply pw_below_drewN | apply below_drew1 | refine below_set ?_ GE312.out) | exact HB.out))); rintro e w17 ⟨v316, rfl, ho0, hb⟩; have n0_ := Aside0.mk (Kd.R_lower ho0 (below_size (by repeat (first | (with_reducible first | exact HB.out | apply below_alloc | apply pw_below_drewN | apply below_drew1 | refine below_set ?_ GE312.out) | exact HB.out)))); have n1_ := Aside0.mk (blk_below (g := gb312) (o := .cells #[.int .i64 a0_0, .string a0_1, .int .i64 a0_2, .int .i64 a0_3, .slice A0_4 l0_4.length c0_4] 39 (0, 0)) (by (with_reducible repeat (first | refine blk_drewN ?_ _ | refine blk_drew ?_ | refine blk_alloc ?_ _)); exact BK312.out) hb); have n2_ := Aside0.mk (below_step (by repeat (first | (with_reducible first | exact HB.out | apply below_alloc | apply pw_below_drewN | apply below_drew1 | refine below_set ?_ GE312.out) | exact HB.out)) hb); clear BK312; clear HB; have HO317 := n0_; have BK312 := n1_; have HB := n2_; clear n0_ n1_ n2_; (try clear hb); (try clear hb2); (try clear hk); (try clear hi); (try clear ho0)))
    repeat (go_quiet (first | ((with_reducible refine gate_dst (N := 1) rfl ?_); (try (refine gate_guard (by rfl) ?_; dsimp only)); refine box_event ?hg (N := 1) ?hd (cs := #[.int .i64 a0_0, .string a0_1, .int .i64 a0_2, .int .i64 a0_3, .slice A0_4 l0_4.length c0_4]) (t := 39) ?hr ?_; (case hd => rfl); (case hg => rfl); (case hr => first | (go_simp; done) | (go_simp; rfl)); intro gb312 hg w15 hbox hb; have n0_ := Aside0.mk (below_step (by repeat (first | (with_reducible first | exact HB.out | apply below_alloc | apply pw_below_drewN | apply below_drew1) | exact HB.out)) hb); have n1_ := Aside0.mk (hbox); have n2_ := Aside0.mk ((by rw [hg]; exact (below_size (by repeat (first | (with_reducible first | exact HB.out | apply below_alloc | apply pw_below_drewN | apply below_drew1) | exact HB.out))) : w.heap.size ≤ gb312)); have n3_ := Aside0.mk ((by rw [hg]; exact (below_size (by repeat (first | (with_reducible first | exact HB.out | apply below_alloc | apply pw_below_drewN | apply below_drew1) | exact HB.out))) : w.heap.size ≤ gb312)); clear HB; have HB := n0_; have BK312 := n1_; have GW312 := n2_; have GE312 := n3_; clear n0_ n1_ n2_ n3_; clear hb hbox hg; have hcz16_0 : w15.cell? ⟨gb312, 0, none⟩ = some (.int .i64 a0_0) := (blk_cell BK312.out 0).trans rfl; have hcz16_1 : w15.cell? ⟨gb312, 1, none⟩ = some (.string a0_1) := (blk_cell BK312.out 1).trans rfl; have hcz16_2 : w15.cell? ⟨gb312, 2, none⟩ = some (.int .i64 a0_2) := (blk_cell BK312.out 2).trans rfl; have hcz16_3 : w15.cell? ⟨gb312, 3, none⟩ = some (.int .i64 a0_3) := (blk_cell BK312.out 3).trans rfl; have hcz16_4 : w15.cell? ⟨gb312, 4, none⟩ = some (.slice A0_4 l0_4.length c0_4) := (blk_cell BK312.out 4).trans rfl; have hfz16_0 := blk_frozen BK312.out 0; have hfz16_1 := blk_frozen BK312.out 1; have hfz16_2 := blk_frozen BK312.out 2; have hfz16_3 := blk_frozen BK312.out 3; have hfz16_4 := blk_frozen BK312.out 4) | (go_at_call 16; (with_reducible refine (token_All.calls a0_1 t313 t314 t315 _ ?side1 A2.out).mono ?_); (case side1 => exact hG.below (by repeat (first | (with_reducible first | exact HB.out | apply below_alloc | apply pw_below_drewN | apply below_drew1 | refine below_set ?_ GE312.out) | exact HB.out))); rintro e w17 ⟨v316, rfl, ho0, hb⟩; have n0_ := Aside0.mk (Kd.R_lower ho0 (below_size (by repeat (first | (with_reducible first | exact HB.out | apply below_alloc | apply pw_below_drewN | apply below_drew1 | refine below_set ?_ GE312.out) | exact HB.out)))); have n1_ := Aside0.mk (blk_below (g := gb312) (o := .cells #[.int .i64 a0_0, .string a0_1, .int .i64 a0_2, .int .i64 a0_3, .slice A0_4 l0_4.length c0_4] 39 (0, 0)) (by (with_reducible repeat (first | refine blk_drewN ?_ _ | refine blk_drew ?_ | refine blk_alloc ?_ _)); exact BK312.out) hb); have n2_ := Aside0.mk (below_step (by repeat (first | (with_reducible first | exact HB.out | apply below_alloc | apply pw_below_drewN | apply below_drew1 | refine below_set ?_ GE312.out) | exact HB.out)) hb); clear BK312; clear HB; have HO317 := n0_; have BK312 := n1_; have HB := n2_; clear n0_ n1_ n2_; (try clear hb); (try clear hb2); (try clear hk); (try clear hi); (try clear ho0))); try go_wp2_with (first | ((with_reducible refine gate_dst (N := 1) rfl ?_); (try (refine gate_guard (by rfl) ?_; dsimp only)); refine box_event ?hg (N := 1) ?hd (cs := #[.int .i64 a0_0, .string a0_1, .int .i64 a0_2, .int .i64 a0_3, .slice A0_4 l0_4.length c0_4]) (t := 39) ?hr ?_; (case hd => rfl); (case hg => rfl); (case hr => first | (go_simp; done) | (go_simp; rfl)); intro gb312 hg w15 hbox hb; have n0_ := Aside0.mk (below_step (by repeat (first | (with_reducible first | exact HB.out | apply below_alloc | apply pw_below_drewN | apply below_drew1) | exact HB.out)) hb); have n1_ := Aside0.mk (hbox); have n2_ := Aside0.mk ((by rw [hg]; exact (below_size (by repeat (first | (with_reducible first | exact HB.out | apply below_alloc | apply pw_below_drewN | apply below_drew1) | exact HB.out))) : w.heap.size ≤ gb312)); have n3_ := Aside0.mk ((by rw [hg]; exact (below_size (by repeat (first | (with_reducible first | exact HB.out | apply below_alloc | apply pw_below_drewN | apply below_drew1) | exact HB.out))) : w.heap.size ≤ gb312)); clear HB; have HB := n0_; have BK312 := n1_; have GW312 := n2_; have GE312 := n3_; clear n0_ n1_ n2_ n3_; clear hb hbox hg; have hcz16_0 : w15.cell? ⟨gb312, 0, none⟩ = some (.int .i64 a0_0) := (blk_cell BK312.out 0).trans rfl; have hcz16_1 : w15.cell? ⟨gb312, 1, none⟩ = some (.string a0_1) := (blk_cell BK312.out 1).trans rfl; have hcz16_2 : w15.cell? ⟨gb312, 2, none⟩ = some (.int .i64 a0_2) := (blk_cell BK312.out 2).trans rfl; have hcz16_3 : w15.cell? ⟨gb312, 3, none⟩ = some (.int .i64 a0_3) := (blk_cell BK312.out 3).trans rfl; have hcz16_4 : w15.cell? ⟨gb312, 4, none⟩ = some (.slice A0_4 l0_4.length c0_4) := (blk_cell BK312.out 4).trans rfl; have hfz16_0 := blk_frozen BK312.out 0; have hfz16_1 := blk_frozen BK312.out 1; have hfz16_2 := blk_frozen BK312.out 2; have hfz16_3 := blk_frozen BK312.out 3; have hfz16_4 := blk_frozen BK312.out 4) | (go_at_call 16; (with_reducible refine (token_All.calls a0_1 t313 t314 t315 _ ?side1 A2.out).mono ?_); (case side1 => exact hG.below (by repeat (first | (with_reducible first | exact HB.out | apply below_alloc | apply pw_below_drewN | apply below_drew1 | refine below_set ?_ GE312.out) | exact HB.out))); rintro e w17 ⟨v316, rfl, ho0, hb⟩; have n0_ := Aside0.mk (Kd.R_lower ho0 (below_size (by repeat (first | (with_reducible first | exact HB.out | apply below_alloc | apply pw_below_drewN | apply below_drew1 | refine below_set ?_ GE312.out) | exact HB.out)))); have n1_ := Aside0.mk (blk_below (g := gb312) (o := .cells #[.int .i64 a0_0, .string a0_1, .int .i64 a0_2, .int .i64 a0_3, .slice A0_4 l0_4.length c0_4] 39 (0, 0)) (by (with_reducible repeat (first | refine blk_drewN ?_ _ | refine blk_drew ?_ | refine blk_alloc ?_ _)); exact BK312.out) hb); have n2_ := Aside0.mk (below_step (by repeat (first | (with_reducible first | exact HB.out | apply below_alloc | apply pw_below_drewN | apply below_drew1 | refine below_set ?_ GE312.out) | exact HB.out)) hb); clear BK312; clear HB; have HO317 := n0_; have BK312 := n1_; have HB := n2_; clear n0_ n1_ n2_; (try clear hb); (try clear hb2); (try clear hk); (try clear hi); (try clear ho0))))
    go_ret
    exact ⟨by first | rfl | (simp [] <;> rfl) | (simp [*] <;> rfl), by repeat (first | (with_reducible first | exact HB.out | apply below_alloc | apply pw_below_drewN | apply below_drew1 | refine below_set ?_ GE312.out) | exact HB.out)⟩
end Go.Proofs.YtngcojabofkbjaaDoor.P
namespace Go.Proofs.YtngcojabofkbjaaDoor.P
open Go.RowKit Go.Proofs.YtngcojabofkbjaaDoorW.PrintWords Go.Proofs.YtngcojabofkbjaaDoorW.PrintLast Go.Proofs.YtngcojabofkbjaaDoorW.PrintMore
set_option linter.unusedVariables false
set_option linter.unusedSimpArgs false
theorem blk_at (W : World) (o : Obj) (k : Nat) (h : k = W.heap.size) : (W.alloc o).heap[k]? = some o := by subst h; exact blk_new W o
theorem allocs3 (w : World) (o0 o1 o2 : Obj) : Below w.heap.size w (((w.alloc o0).alloc o1).alloc o2) ∧ (((w.alloc o0).alloc o1).alloc o2).heap[w.heap.size]? = some o0 ∧ (((w.alloc o0).alloc o1).alloc o2).heap[w.heap.size + 1]? = some o1 ∧ (((w.alloc o0).alloc o1).alloc o2).heap[w.heap.size + 1 + 1]? = some o2 ∧ (((w.alloc o0).alloc o1).alloc o2).heap.size = w.heap.size + 1 + 1 + 1 :=
  ⟨below_alloc (below_alloc (below_alloc (Below.refl _ _) _) _) _, blk_alloc (blk_alloc (blk_new _ _) _) _, blk_alloc (blk_at _ _ _ (by simp)) _, blk_at _ _ _ (by simp), by simp⟩
theorem allocs4 (w : World) (o0 o1 o2 o3 : Obj) : Below w.heap.size w ((((w.alloc o0).alloc o1).alloc o2).alloc o3) ∧ ((((w.alloc o0).alloc o1).alloc o2).alloc o3).heap[w.heap.size]? = some o0 ∧ ((((w.alloc o0).alloc o1).alloc o2).alloc o3).heap[w.heap.size + 1]? = some o1 ∧ ((((w.alloc o0).alloc o1).alloc o2).alloc o3).heap[w.heap.size + 1 + 1]? = some o2 ∧ ((((w.alloc o0).alloc o1).alloc o2).alloc o3).heap[w.heap.size + 1 + 1 + 1]? = some o3 ∧ ((((w.alloc o0).alloc o1).alloc o2).alloc o3).heap.size = w.heap.size + 1 + 1 + 1 + 1 := by
  obtain ⟨h, h0, h1, h2, hz⟩ := allocs3 w o0 o1 o2
  exact ⟨below_alloc h _, blk_alloc h0 _, blk_alloc h1 _, blk_alloc h2 _, blk_at _ _ _ hz.symm, by simp⟩
abbrev NodeS := S39
abbrev TN : Nat := 39
abbrev NodeAt (w0 : World) (l : List NodeS) := { p : NodeS × Array Value // p.1 ∈ l ∧ k39.K w0 p.1 p.2.toList }
theorem node_cells {w0 : World} {l : List NodeS} (x : NodeAt w0 l) : ∃ A c, x.1.2 = #[.int .i64 x.1.1.f0, .string x.1.1.f1, .int .i64 x.1.1.f2, .int .i64 x.1.1.f3, .slice A x.1.1.f4.length c] ∧ x.1.1.f4.length ≤ c ∧ k39.C w0 A x.1.1.f4.length x.1.1.f4 := by
  obtain ⟨A, c, h, h2, h3⟩ := k39_open x.2.2
  exact ⟨A, c, by rw [← h], h2, h3⟩
attribute [local go_sem] Oper.semAt_some
set_option maxHeartbeats 1000000 in
theorem each_any (w : World) (cs : Array Value) (hcs : cs.size = 5) (n : Nat) :
    CallsIn Fence.wide n Tryd.prog 71 #[.agg cs] w fun e w' => e = .returned (.func (.func 85) #[] #[.pointer (some ⟨w.heap.size, 0, none⟩)]) ∧ w' = w.alloc (.cells cs TN) := by
  refine callsIn_of_wp Tryd.func71 rfl trivial ?_ rfl
  simp only [Tryd.ntmps71, List.size_toArray, List.length_cons, List.length_nil, Nat.reduceAdd, Nat.reduceSub, Array.replicate_succ, Array.replicate_zero, List.push_toArray, List.append_toArray, List.nil_append, List.cons_append]
  gi_wp2
  go_ret
  exact ⟨rfl, rfl⟩
theorem nodeAt_get {w0 : World} {A : Option Addr} {n : Nat} {l : List NodeS} (h : k39.C w0 A n l) (k : Nat) (hk : k < l.length) (hn : l.length = n) :
    ∃ (y : NodeAt w0 l) (ad : Addr) (A4 : Option Addr) (c4 : Nat), y.1.1 = l[k] ∧ A = some ad ∧ y.1.2 = #[.int .i64 l[k].f0, .string l[k].f1, .int .i64 l[k].f2, .int .i64 l[k].f3, .slice A4 l[k].f4.length c4] ∧
      w0.cell? (ad.add (k * 5)) = some (.int .i64 l[k].f0) ∧ w0.cell? ⟨(ad.add (k * 5)).block, (ad.add (k * 5)).off + 1, none⟩ = some (.string l[k].f1) ∧ w0.cell? ⟨(ad.add (k * 5)).block, (ad.add (k * 5)).off + 2, none⟩ = some (.int .i64 l[k].f2) ∧
      w0.cell? ⟨(ad.add (k * 5)).block, (ad.add (k * 5)).off + 3, none⟩ = some (.int .i64 l[k].f3) ∧ w0.cell? ⟨(ad.add (k * 5)).block, (ad.add (k * 5)).off + 4, none⟩ = some (.slice A4 l[k].f4.length c4) := by
  obtain ⟨ad, A4, c4, e, h0, h1, h2, h3, h4, hl, hi⟩ := at_T39 h (k : Int) (by omega) (by omega)
  have er : rd_T39 l (k : Int) = l[k] := by simp [rd_T39, hk]
  rw [er] at h0 h1 h2 h3 h4 hl hi
  rw [Int.toNat_natCast] at h0 h1 h2 h3 h4
  exact ⟨⟨(l[k], #[.int .i64 l[k].f0, .string l[k].f1, .int .i64 l[k].f2, .int .i64 l[k].f3, .slice A4 l[k].f4.length c4]), ⟨List.getElem_mem _, k39_mk w0 l[k] hl hi⟩⟩, ad, A4, c4, rfl, e, rfl, h0, h1, h2, h3, h4⟩
set_option maxRecDepth 100000 in
set_option maxHeartbeats 2000000 in
theorem each1_in (n : Nat) (l Bn : Nat) (w0 : World) (x : NodeS) (A : Option Addr) (c : Nat) (J Jx : List (NodeAt w0 x.f4) → World → Prop)
    (hreach : x.f4.length ≤ 140737488351232) (hC : k39.C w0 A x.f4.length x.f4)
    (hY : ∀ pre (y : NodeAt w0 x.f4) W, J pre W → pre.length < x.f4.length → YieldAt Fence.wide (n - 1) Tryd.prog l #[.agg y.1.2] W fun e W' =>
      (e = .returned (.bool true) ∧ J (pre ++ [y]) W' ∧ Below w0.heap.size W W') ∨ (e = .returned (.bool false) ∧ Jx (pre ++ [y]) W'))
    (hAb : ∀ pre W t, J pre W → J pre (W.alloc (.cells t TN)))
    (W : World) (hb : Below w0.heap.size w0 W) (hBn : W.cell? ⟨Bn, 4, none⟩ = some (.slice A x.f4.length c)) (h0 : J [] W) :
    CallsIn Fence.wide n Tryd.prog 85 #[.func (.yield l) #[] #[], .pointer (some ⟨Bn, 0, none⟩)] W fun e W' => (∃ v, e = .returned v) ∧
      ((∃ ys : List (NodeAt w0 x.f4), ys.map (·.1.1) = x.f4 ∧ J ys W') ∨ (∃ pre : List (NodeAt w0 x.f4), pre.map (·.1.1) <+: x.f4 ∧ Jx pre W')) := by
  refine callsIn_of_wp Tryd.func85 rfl trivial ?_ rfl
  simp only [Tryd.ntmps85, List.size_toArray, List.length_cons, List.length_nil, Nat.reduceAdd, Nat.reduceSub, Array.replicate_succ, Array.replicate_zero, List.push_toArray, List.append_toArray, List.nil_append, List.cons_append]
  gi_wp2
  gi_loopw [8] (fun i wr => ∃ (k : Nat) (pre : List (NodeAt w0 x.f4)), k ≤ x.f4.length ∧ i = .int .i64 k ∧ pre.map (·.1.1) = x.f4.take k ∧ J pre wr ∧ Below w0.heap.size w0 wr)
    (fun i _ => x.f4.length - (intOf i).toNat)
  case atStart => exact ⟨0, [], Nat.zero_le _, rfl, rfl, h0, hb⟩
  case round =>
    obtain ⟨k, pre, hk, rfl, hpre, hJs, hnx⟩ := hrel
    by_cases hlt : k < x.f4.length
    · obtain ⟨y, ad, A4, c4, hy1, hA, hy2, g0, g1, g2, g3, g4⟩ := nodeAt_get hC k hlt rfl
      cases hA
      have hx0 := (hnx.cell (World.block_lt_of_cell? w0 _ g0)).trans g0
      have hx1 := (hnx.cell (World.block_lt_of_cell? w0 _ g1)).trans g1
      have hx2 := (hnx.cell (World.block_lt_of_cell? w0 _ g2)).trans g2
      have hx3 := (hnx.cell (World.block_lt_of_cell? w0 _ g3)).trans g3
      have hx4 := (hnx.cell (World.block_lt_of_cell? w0 _ g4)).trans g4
      have HY := Aside0.mk hy1
      have HP := Aside0.mk hpre
      clear g0 g1 g2 g3 g4 hpre hy1
      have hlen : pre.length < x.f4.length := by have := congrArg List.length HP.out; simp at this; omega
      obtain ⟨fn, tmps, assign, body, hy, hR⟩ := hY pre y (wr.alloc (.cells y.1.2 TN)) (hAb _ _ _ hJs) hlen
      rw [hy2] at hy hR
      have HR := Aside0.mk hR
      clear hR hlen hy2
      gi_wp2
      refine ⟨fun h => by simp [Fence.wide] at h, ?_⟩
      refine HR.out.mono ?_
      rintro e W3 (⟨rfl, hJ3, hk3⟩ | ⟨rfl, hJx3⟩)
      · gi_wp2
        go_roundw
        case rel => exact ⟨k + 1, pre ++ [y], by omega, by simp, by rw [List.map_append, HP.out, List.take_succ_eq_append_getElem hlt]; simp [HY.out], hJ3, (hnx.alloc hnx.size _).trans hk3⟩
        case measure => simp [intOf]; omega
      · gi_wp2
        refine bodyPost_ret (results_none rfl _ _ _) rfl ?_
        exact ⟨⟨_, rfl⟩, .inr ⟨pre ++ [y], ⟨x.f4.drop (k + 1), by rw [List.map_append, HP.out]; simp [HY.out]⟩, hJx3⟩⟩
    · obtain rfl : k = x.f4.length := by omega
      gi_wp2
      go_end0
      exact ⟨⟨_, rfl⟩, .inl ⟨pre, by rw [hpre, List.take_length], hJs⟩⟩
theorem results_one {P : Program} {fn : Func} {p : Tmp} {ty : TypeId} (h : fn.results = #[.cell p ty]) (tmps : Array Value) (w : World) (a : Addr) (v : Value) (hp : tmps[p]? = some (.pointer (some a))) (hl : (loadVar ty a).run P w = .ok v w) : (results fn tmps).run P w = .ok v w := by
  have hp' : tmps[p]?.getD undef = .pointer (some a) := by rw [hp]; rfl
  simp [results, h, hp', asAddr, hl]
theorem each_stops (n Bn : Nat) (w0 wl : World) (x : NodeS) (A : Option Addr) (c : Nat) (hreach : x.f4.length ≤ 140737488351232) (hC : k39.C w0 A x.f4.length x.f4)
    (hb : Below w0.heap.size w0 wl) (hbox : wl.cell? ⟨Bn, 4, none⟩ = some (.slice A x.f4.length c)) :
    SeqStopsK Fence.wide n Tryd.prog 85 #[.pointer (some ⟨Bn, 0, none⟩)] (fun y : NodeAt w0 x.f4 => #[.agg y.1.2]) (Below w0.heap.size) (fun ys => ys.map (·.1.1) = x.f4) (fun pre => pre.map (·.1.1) <+: x.f4) x.f4.length wl :=
  fun l J Jx W hW hJ _ hY h0 =>
    each1_in n l Bn w0 x A c J Jx hreach hC hY (fun pre V t h => hJ pre V _ none h (World.grownBy_alloc V _ none) (fun r e => by cases e)) W (below_then hb hb.size hW)
      ((hW.cell (World.block_lt_of_cell? wl _ hbox)).trans hbox) h0
theorem ownFrom_blk {β : Type} (B b : Nat) (o : Obj) (ho : o.isCells = true) : OwnFrom B (fun (_ : β) W => W.heap[b]? = some o) := fun s W W' row hs hg hr => by
  refine (hg.block b (Array.getElem?_eq_some_iff.1 hs).1 ?_).trans hs
  intro e
  obtain ⟨_, o', h1, h2⟩ := hr b e.symm
  rw [hs] at h1
  cases h1
  rw [ho] at h2
  cases h2
theorem range_each {g : Operand} {p : Tmp} {assign body : Code} {Q : Exit → Act → World → Prop} {a : Act} {w : World} (s Bn : Nat) (w0 : World) (x : NodeS) (A : Option Addr) (c : Nat)
    (hreach : x.f4.length ≤ 140737488351232) (hC : k39.C w0 A x.f4.length x.f4) (hb : Below w0.heap.size w0 w) (hbox : w.cell? ⟨Bn, 4, none⟩ = some (.slice A x.f4.length c))
    (hg : a.eval g = .func (.func 85) #[] #[.pointer (some ⟨Bn, 0, none⟩)])
    (I : List (NodeAt w0 x.f4) → World → Prop) (Ix : Code → List (NodeAt w0 x.f4) → World → Prop) (hI : OwnFrom w.heap.size I) (hIx : ∀ c, OwnFrom w.heap.size (Ix c)) (h0 : I [] w)
    (hassign : ∀ (l : Nat) (y : NodeAt w0 x.f4) (W : World) (K : Act → World → Prop),
      K { tmps := (a.tmps.setIfInBounds p (.agg y.1.2)).setIfInBounds s (.pointer (some ⟨W.heap.size, 0, none⟩)), defers := [] } (W.alloc (.cells y.1.2 TN)) →
      assign.wpIn (Fence.wide.inRound l) 3 Tryd.prog (Exit.then K (fun _ _ _ => False)) { tmps := a.tmps.setIfInBounds p (.agg y.1.2), defers := [] } W)
    (hbody : ∀ (l : Nat) (pre : List (NodeAt w0 x.f4)) (y : NodeAt w0 x.f4) (Bx : Nat) (W : World), w.heap.size ≤ l → (∃ r, W.heap[l]? = some (.loop r)) → I pre W → w.heap.size ≤ Bx → W.heap[Bx]? = some (.cells y.1.2 TN (0, 0)) → pre.length < x.f4.length →
      body.wpIn (Fence.wide.inRound l) 3 Tryd.prog (ownPostG w.heap.size (Below w0.heap.size) I Ix (pre ++ [y]) W) { tmps := (a.tmps.setIfInBounds p (.agg y.1.2)).setIfInBounds s (.pointer (some ⟨Bx, 0, none⟩)), defers := [] } W)
    (hIw : ∀ pre W, I pre W → w.heap.size ≤ W.heap.size)
    (hdone : ∀ (D : Nat) (ys : List (NodeAt w0 x.f4)) (W : World), w.heap.size ≤ D → ys.map (·.1.1) = x.f4 → I ys W → W.heap[D]? = some (.deferred (some [])) → Q .normal { a with defers := { target := .collected D, args := #[] } :: a.defers } W)
    (hstop : ∀ (D : Nat) (c : Code) (pre : List (NodeAt w0 x.f4)) (W : World), w.heap.size ≤ D → pre.map (·.1.1) <+: x.f4 → Ix c pre W → W.heap[D]? = some (.deferred (some [])) → c.wpIn Fence.wide 5 Tryd.prog Q { a with defers := { target := .collected D, args := #[] } :: a.defers } W) :
    (Code.rangeFunc g #[p] assign body).wpIn Fence.wide 5 Tryd.prog Q a w := by
  refine wpIn_rangeFunc_ownH (n := 5) rfl (by omega) hg trivial (fun args w => run_enter Tryd.func85 (by kernel_rfl) (by kernel_rfl) _ _) (each_stops 4 Bn w0 w x A c hreach hC hb hbox) belowK_t (belowK_b hb.size) (Below.refl _ _) (fun _ => rfl) I Ix hI hIx h0
    (fun y a' W => ∃ Bx, w.heap.size ≤ Bx ∧ W.heap[Bx]? = some (.cells y.1.2 TN (0, 0)) ∧ a' = { tmps := (a.tmps.setIfInBounds p (.agg y.1.2)).setIfInBounds s (.pointer (some ⟨Bx, 0, none⟩)), defers := [] })
    (fun y a' => ?hAx) ?assign ?body hdone hstop
  case hAx =>
    rintro u W W' row ⟨Bx, h1, h2, h3⟩ hg hr
    exact ⟨Bx, h1, ownFrom_blk w.heap.size Bx _ rfl u W W' row h2 hg hr, h3⟩
  case assign =>
    intro l pre y W K hi hK
    have e : (Array.zip #[p] #[Value.agg y.1.2]).foldl (fun (t : Array Value) (x : Tmp × Value) => t.setIfInBounds x.1 x.2) a.tmps = a.tmps.setIfInBounds p (.agg y.1.2) := by
      rw [show Array.zip #[p] #[Value.agg y.1.2] = #[(p, Value.agg y.1.2)] from by simp]
      rfl
    show Code.wpIn (Fence.wide.inRound l) 3 _ assign _ { tmps := (Array.zip #[p] #[Value.agg y.1.2]).foldl (fun (t : Array Value) (x : Tmp × Value) => t.setIfInBounds x.1 x.2) a.tmps, defers := [] } W
    rw [e]
    refine hassign l y W K ?_
    exact hK _ _ ((KeepsOthers.alloc _ _).from _) ((Below.refl w0.heap.size W).alloc (Nat.le_trans hb.size (hIw pre W hi)) _) (hI.alloc _ hi) ⟨_, hIw pre W hi, blk_new W _, rfl⟩
  case body =>
    rintro l pre y a' W hl hr hi ⟨Bx, h1, h2, rfl⟩ hlt
    exact hbody l pre y Bx W hl hr hi h1 h2 hlt
end Go.Proofs.YtngcojabofkbjaaDoor.P
namespace Go.Proofs.YtngcojabofkbjaaDoor.P
open Go.RowKit Go.Proofs.YtngcojabofkbjaaDoorW.PrintWords Go.Proofs.YtngcojabofkbjaaDoorW.PrintLast Go.Proofs.YtngcojabofkbjaaDoorW.PrintMore
set_option linter.unusedVariables false
set_option linter.unusedSimpArgs false
def aloneB (k : Int) (t : ByteArray) (n : Int) : Bool := (sexp_alone.f k t n 0 []).getD false
theorem alone_eq (k : Int) (t : ByteArray) (n a : Int) (l : List NodeS) : sexp_alone.f k t n a l = some (aloneB k t n) := by
  have e : ∀ a l, sexp_alone.f k t n a l = sexp_alone.f k t n 0 [] := fun _ _ => rfl
  have h : ∃ b, sexp_alone.f k t n 0 [] = some b := by
    unfold sexp_alone.f token_All.f
    simp only [Option.bind_some]
    split
    · split
      · split
        · exact ⟨_, rfl⟩
        · omega
      · exact ⟨_, rfl⟩
    · exact ⟨_, rfl⟩
  obtain ⟨b, hb⟩ := h
  rw [e, aloneB, hb, Option.getD_some]
mutual
def mayB : NodeS → Int → Bool
  | ⟨k, t, n, _, l⟩, d => if k = 0 ∨ k = 1 then decide (l.length = 0) && aloneB k t n else if k = 2 then decide (l.length = 0) && n == 0 else if k = 3 then decide (l.length = 0) && (n == 0 && t.toList == [46])
    else if k = 4 then mayL l (wrap64 (d + 1)) && (n == 0 && (t.toList == [] && decide (d < 16))) else false
def mayL : List NodeS → Int → Bool
  | [], _ => true
  | x :: r, d => mayB x d && mayL r d
end
mutual
def smallB : NodeS → Bool
  | ⟨_, _, _, _, l⟩ => decide (l.length ≤ 140737488351232) && smallL l
def smallL : List NodeS → Bool
  | [] => true
  | x :: r => smallB x && smallL r
end
theorem mayL_all (l : List NodeS) (d : Int) : mayL l d = l.all (mayB · d) := by
  induction l with
  | nil => rfl
  | cons x r ih => rw [mayL, ih, List.all_cons]
theorem smallL_all (l : List NodeS) : smallL l = l.all smallB := by
  induction l with
  | nil => rfl
  | cons x r ih => rw [smallL, ih, List.all_cons]
theorem small_open (x : NodeS) (h : smallB x = true) : x.f4.length ≤ 140737488351232 ∧ ∀ y ∈ x.f4, smallB y = true := by
  obtain ⟨k, t, n, a, l⟩ := x
  rw [smallB, Bool.and_eq_true, smallL_all] at h
  exact ⟨of_decide_eq_true h.1, List.all_eq_true.1 h.2⟩
theorem size_in (x y : NodeS) (h : y ∈ x.f4) : SizeOf.sizeOf y < SizeOf.sizeOf x := by
  obtain ⟨k, t, n, a, l⟩ := x
  have := List.sizeOf_lt_of_mem h
  simp only [S39.mk.sizeOf_spec]
  simp only at this
  omega
attribute [local go_sem] Oper.semAt_some
def MayPost (w : World) (b : Bool) (e : Ending) (w' : World) : Prop := e = .returned (.bool b) ∧ Below w.heap.size w w'
theorem keeps_below {B : Nat} {W W1 : World} (h : Below W.heap.size W W1) : KeepsFrom B W W1 := ⟨h.size, fun k o _ hk _ => (h.block k (Array.getElem?_eq_some_iff.1 hk).1).trans hk⟩
def MayAll {w : World} {l : List NodeS} (d : Int) (pre : List (NodeAt w l)) : Prop := ∀ y ∈ pre, mayB y.1.1 d = true
def MayNo {w : World} {l : List NodeS} (d : Int) (pre : List (NodeAt w l)) : Prop := ∃ y ∈ pre, mayB y.1.1 d = false
theorem may_end {w V : World} {D : Nat} {b : Bool} {tmps : Array Value} {R : Ending → World → Prop} (ht : tmps[4]? = some (.pointer (some ⟨w.heap.size + 1 + 1, 0, none⟩))) (hK : V.heap[D]? = some (.deferred (some [])))
    (k2 : V.heap[w.heap.size + 1 + 1]? = some (.cells #[.bool b] 4 (0, 0))) (kB : Below w.heap.size w V) (hD : w.heap.size ≤ D) (hR : ∀ V', Below w.heap.size w V' → R (.returned (.bool b)) V') :
    bodyPostM Fence.wide 5 Tryd.prog Tryd.f46 R .ret { tmps := tmps, defers := [{ target := .collected D, args := #[] }] } V := by
  refine ⟨by simp, .inl ⟨_, _, rfl, run_takeDeferred hK, ?_⟩⟩
  have k3 : (V.putObj D (.deferred none)).cell? ⟨w.heap.size + 1 + 1, 0, none⟩ = some (.bool b) := cell_kept ((blk_cell k2 0).trans rfl) (grownBy_putObj' _ D (.deferred none)) (fun r e => by cases e; exact ⟨_, hK, rfl⟩)
  exact ⟨_, results_one rfl _ _ ⟨w.heap.size + 1 + 1, 0, none⟩ (.bool b) ht (by go_simp), hR _ (kB.trans (belowK_b (w := w) (Nat.le_refl _) V D _ (.deferred none) hD hK rfl rfl))⟩
set_option maxRecDepth 100000 in
set_option maxHeartbeats 4000000 in
theorem may_list (t : ByteArray) (n a d : Int) (l : List NodeS) (A : Option Addr) (c : Nat) (w : World) (hl : l.length ≤ 140737488351232) (hC : k39.C w A l.length l) (hc : l.length ≤ c) (hG : GInv w)
    (ih : ∀ (y : NodeAt w l) (W : World), Below w.heap.size w W → Calls Tryd.prog 46 #[.agg y.1.2, .int .i64 (wrap64 (d + 1))] W (MayPost W (mayB y.1.1 (wrap64 (d + 1))))) :
    Calls Tryd.prog 46 #[.agg #[.int .i64 4, .string t, .int .i64 n, .int .i64 a, .slice A l.length c], .int .i64 d] w (MayPost w (mayB ⟨4, t, n, a, l⟩ d)) := by
  refine (callsIn_wide (n := 5)).1 ?_
  refine callsIn_of_wp_marks Tryd.func46 rfl trivial ?_ rfl
  simp only [Tryd.ntmps46, List.size_toArray, List.length_cons, List.length_nil, Nat.reduceAdd, Nat.reduceSub, Array.replicate_succ, Array.replicate_zero, List.push_toArray, List.append_toArray, List.nil_append, List.cons_append]
  have IH := Aside0.mk ih
  have HC := Aside0.mk hC
  have HL := Aside0.mk hl
  have HG := Aside0.mk hG
  clear ih hC hl hG
  gi_wp2_with (refine ⟨trivial, ?_⟩; gi_at_call 71; refine (each_any _ _ rfl _).mono ?_; rintro e w' ⟨rfl, rfl⟩)
  obtain ⟨b0, h0, h1, h2, h3, hz⟩ := allocs4 w (.cells #[.int .i64 4, .string t, .int .i64 n, .int .i64 a, .slice A l.length c] TN) (.cells #[.int .i64 d] 3) (.cells #[.bool false] 4) (.cells #[.int .i64 4, .string t, .int .i64 n, .int .i64 a, .slice A l.length c] TN)
  generalize ((((w.alloc (.cells #[.int .i64 4, .string t, .int .i64 n, .int .i64 a, .slice A l.length c] TN)).alloc (.cells #[.int .i64 d] 3)).alloc (.cells #[.bool false] 4)).alloc (.cells #[.int .i64 4, .string t, .int .i64 n, .int .i64 a, .slice A l.length c] TN)) = wl at *
  have HB0 := Aside0.mk b0
  have HZ := Aside0.mk hz
  clear b0 hz
  refine range_each 5 (w.heap.size + 1 + 1 + 1) w ⟨4, t, n, a, l⟩ A c HL.out HC.out HB0.out ((blk_cell h3 4).trans rfl) rfl
    (fun pre W => (W.heap[w.heap.size]? = some (.cells #[.int .i64 4, .string t, .int .i64 n, .int .i64 a, .slice A l.length c] TN (0, 0)) ∧ (W.heap[w.heap.size + 1]? = some (.cells #[.int .i64 d] 3 (0, 0)) ∧ W.heap[w.heap.size + 1 + 1]? = some (.cells #[.bool false] 4 (0, 0)))) ∧ (Below w.heap.size w W ∧ (wl.heap.size ≤ W.heap.size ∧ MayAll (wrap64 (d + 1)) pre)))
    (fun k pre W => k = .ret ∧ (W.heap[w.heap.size + 1 + 1]? = some (.cells #[.bool false] 4 (0, 0)) ∧ (Below w.heap.size w W ∧ MayNo (wrap64 (d + 1)) pre)))
    (OwnFrom.and (OwnFrom.and (ownFrom_blk _ _ _ rfl) (OwnFrom.and (ownFrom_blk _ _ _ rfl) (ownFrom_blk _ _ _ rfl))) (OwnFrom.and (ownFrom_below (Nat.le_refl _) HB0.out.size) (OwnFrom.and (fun s W W' row hs hg _ => Nat.le_trans hs hg.size) (ownFrom_pure _ (fun (pre : List (NodeAt w l)) => MayAll (wrap64 (d + 1)) pre)))))
    (fun k => OwnFrom.and (ownFrom_pure _ (fun _ => k = .ret)) (OwnFrom.and (ownFrom_blk _ _ _ rfl) (OwnFrom.and (ownFrom_below (Nat.le_refl _) HB0.out.size) (ownFrom_pure _ (fun (pre : List (NodeAt w l)) => MayNo (wrap64 (d + 1)) pre)))))
    ⟨⟨h0, h1, h2⟩, HB0.out, Nat.le_refl _, fun y hy => by cases hy⟩ ?assign ?body (fun _ _ h => h.2.2.1) ?done ?stop
  case assign =>
    intro lp y W K hK
    obtain ⟨Ay, cy, hy, _⟩ := node_cells y
    rw [hy] at hK ⊢
    gi_wp2
    exact hK
  case body =>
    rintro lp pre y Bx W hlp hr ⟨⟨k0, k1, k2⟩, kB, kz, kp⟩ hBx kx hlt
    obtain ⟨Ay, cy, hy, _⟩ := node_cells y
    rw [hy] at kx ⊢
    have x0 : W.cell? ⟨Bx, 0, none⟩ = some (.int .i64 y.1.1.f0) := (blk_cell kx 0).trans rfl
    have x1 : W.cell? ⟨Bx, 1, none⟩ = some (.string y.1.1.f1) := (blk_cell kx 1).trans rfl
    have x2 : W.cell? ⟨Bx, 2, none⟩ = some (.int .i64 y.1.1.f2) := (blk_cell kx 2).trans rfl
    have x3 : W.cell? ⟨Bx, 3, none⟩ = some (.int .i64 y.1.1.f3) := (blk_cell kx 3).trans rfl
    have x4 : W.cell? ⟨Bx, 4, none⟩ = some (.slice Ay y.1.1.f4.length cy) := (blk_cell kx 4).trans rfl
    have d0 : W.cell? ⟨w.heap.size + 1, 0, none⟩ = some (.int .i64 d) := (blk_cell k1 0).trans rfl
    have KI := Aside0.mk (And.intro k0 (And.intro k1 k2))
    have KB := Aside0.mk kB
    have KZ := Aside0.mk kz
    have KP := Aside0.mk kp
    have hIY := IH.out y W kB
    rw [hy] at hIY
    clear hy kx k0 k1 k2 kB kz kp h0 h1 h2 h3
    rcases hm : mayB y.1.1 (wrap64 (d + 1)) with _ | _
    · rw [hm] at hIY
      have HIY := Aside0.mk hIY
      have HM := Aside0.mk hm
      clear hIY hm
      gi_wp2_with (refine ⟨trivial, ?_⟩; gi_at_call 46; refine (CallsIn.inRound lp (callsIn_wide.2 HIY.out)).mono ?_; rintro e W1 ⟨rfl, hB1⟩; have j2 := blk_below KI.out.2.2 hB1; have r0 := (blk_cell j2 0).trans (show _ = some (Value.bool false) from rfl); have r1 := blk_frozen j2 0)
      exact ⟨(keeps_below hB1).trans ((KeepsOthers.setCell _ _ _).from _), rfl, (blk_set j2 0 _).trans rfl, (below_step KB.out hB1).setCell (by show w.heap.size ≤ w.heap.size + 1 + 1; omega) _, y, by simp, HM.out⟩
    · rw [hm] at hIY
      have HIY := Aside0.mk hIY
      have HM := Aside0.mk hm
      clear hIY hm
      gi_wp2_with (refine ⟨trivial, ?_⟩; gi_at_call 46; refine (CallsIn.inRound lp (callsIn_wide.2 HIY.out)).mono ?_; rintro e W1 ⟨rfl, hB1⟩)
      refine ⟨keeps_below hB1, hB1.mono KB.out.size, ⟨blk_below KI.out.1 hB1, blk_below KI.out.2.1 hB1, blk_below KI.out.2.2 hB1⟩, below_step KB.out hB1, Nat.le_trans KZ.out hB1.size, ?_⟩
      intro z hz
      rcases List.mem_append.1 hz with h | h
      · exact KP.out z h
      · rw [List.mem_singleton.1 h]; exact HM.out
  case done =>
    rintro D ys W hD hys ⟨⟨k0, k1, k2⟩, kB, kz, kp⟩ hK
    have HV : Aside0 (mayB ⟨4, t, n, a, l⟩ d = (n == 0 && (t.toList == [] && decide (d < 16)))) := ⟨by
      have e : mayL l (wrap64 (d + 1)) = true := by
        rw [mayL_all, List.all_eq_true]
        intro z hz
        rw [show l = ys.map (·.1.1) from hys.symm] at hz
        obtain ⟨y, hy, rfl⟩ := List.mem_map.1 hz
        exact kp y hy
      rw [mayB, if_neg (by decide), if_neg (by decide), if_neg (by decide), if_pos rfl, e, Bool.true_and]⟩
    have c1 : W.cell? ⟨w.heap.size, 1, none⟩ = some (.string t) := (blk_cell k0 1).trans rfl
    have c2 : W.cell? ⟨w.heap.size, 2, none⟩ = some (.int .i64 n) := (blk_cell k0 2).trans rfl
    have c3 : W.cell? ⟨w.heap.size + 1, 0, none⟩ = some (.int .i64 d) := (blk_cell k1 0).trans rfl
    have c4 : W.cell? ⟨w.heap.size + 1 + 1, 0, none⟩ = some (.bool false) := (blk_cell k2 0).trans rfl
    have c5 := blk_frozen k2 0
    have K2 := Aside0.mk k2
    have KB := Aside0.mk kB
    have HK := Aside0.mk hK
    clear k0 k1 k2 kB kz kp hK h0 h1 h2 h3 hys
    have hE : ∀ (b : Bool) (tmps : Array Value), tmps[4]? = some (.pointer (some ⟨w.heap.size + 1 + 1, 0, none⟩)) → b = (n == 0 && (t.toList == [] && decide (d < 16))) →
        bodyPostM Fence.wide 5 Tryd.prog Tryd.f46 (MayPost w (mayB ⟨4, t, n, a, l⟩ d)) .ret { tmps := tmps, defers := [{ target := .collected D, args := #[] }] } (W.setCell ⟨w.heap.size + 1 + 1, 0, none⟩ (.bool b)) := fun b tmps ht hb =>
      may_end ht ((KeepsOthers.setCell W ⟨w.heap.size + 1 + 1, 0, none⟩ (.bool b)).same D _ HK.out rfl) ((blk_set (w := W) K2.out 0 (.bool b)).trans rfl) (KB.out.setCell (by show w.heap.size ≤ w.heap.size + 1 + 1; omega) _) (Nat.le_trans HB0.out.size hD) (fun V' h => ⟨by rw [HV.out, hb], h⟩)
    have HE := Aside0.mk hE
    clear hE
    by_cases hn : n = 0
    · have d1 : (n == 0) = true := beq_iff_eq.2 hn
      clear hn
      by_cases ht : t.toList = []
      · have d2 : (t.toList == []) = true := beq_iff_eq.2 ht
        clear ht
        gi_wp2
        exact HE.out _ _ rfl (by rw [d1, d2]; rfl)
      · have d2 : (t.toList == []) = false := beq_eq_false_iff_ne.2 ht
        clear ht
        gi_wp2
        exact HE.out _ _ rfl (by rw [d1, d2]; rfl)
    · have d1 : (n == 0) = false := beq_eq_false_iff_ne.2 hn
      clear hn
      gi_wp2
      exact HE.out _ _ rfl (by rw [d1]; rfl)
  case stop =>
    rintro D k pre W hD hpre ⟨rfl, k2, kB, kp⟩ hK
    have HV : Aside0 (mayB ⟨4, t, n, a, l⟩ d = false) := ⟨by
      have e : mayL l (wrap64 (d + 1)) = false := by
        rw [mayL_all, List.all_eq_false]
        obtain ⟨y, hy, hm⟩ := kp
        exact ⟨y.1.1, y.2.1, by rw [hm]; decide⟩
      rw [mayB, if_neg (by decide), if_neg (by decide), if_neg (by decide), if_pos rfl, e, Bool.false_and]⟩
    have HE : Aside0 (∀ (tmps : Array Value), tmps[4]? = some (.pointer (some ⟨w.heap.size + 1 + 1, 0, none⟩)) →
        bodyPostM Fence.wide 5 Tryd.prog Tryd.f46 (MayPost w (mayB ⟨4, t, n, a, l⟩ d)) .ret { tmps := tmps, defers := [{ target := .collected D, args := #[] }] } W) := ⟨fun tmps ht =>
      may_end ht hK k2 kB (Nat.le_trans HB0.out.size hD) (fun V' h => ⟨by rw [HV.out], h⟩)⟩
    clear k2 kB kp hK hpre h0 h1 h2 h3
    gi_wp2
    exact HE.out _ rfl
theorem beq_lit {a b : Int} (h : a = b) : (a == b) = true := beq_iff_eq.2 h
theorem beq_no {a b : Int} (h : ¬ a = b) : (a == b) = false := beq_eq_false_iff_ne.2 h
set_option maxRecDepth 100000 in
set_option maxHeartbeats 4000000 in
theorem may_leaf (k : Int) (t : ByteArray) (n a d : Int) (l : List NodeS) (A : Option Addr) (c : Nat) (w : World) (hl : l.length ≤ 140737488351232) (hC : k39.C w A l.length l) (hc : l.length ≤ c) (hG : GInv w) (hk : ¬ k = 4) :
    Calls Tryd.prog 46 #[.agg #[.int .i64 k, .string t, .int .i64 n, .int .i64 a, .slice A l.length c], .int .i64 d] w (MayPost w (mayB ⟨k, t, n, a, l⟩ d)) := by
  have HC := Aside0.mk hC
  have HG := Aside0.mk hG
  have hV : Aside0 (mayB ⟨k, t, n, a, l⟩ d = if k = 0 ∨ k = 1 then decide (l.length = 0) && aloneB k t n else if k = 2 then decide (l.length = 0) && n == 0 else if k = 3 then decide (l.length = 0) && (n == 0 && t.toList == [46]) else false) := ⟨by
    rw [mayB, if_neg hk]⟩
  have hend : ∀ (b : Bool) (V : World) (tmps : Array Value), tmps[4]? = some (.pointer (some ⟨w.heap.size + 1 + 1, 0, none⟩)) → V.heap[w.heap.size + 1 + 1]? = some (.cells #[.bool b] 4 (0, 0)) → Below w.heap.size w V → b = mayB ⟨k, t, n, a, l⟩ d →
      bodyPost Tryd.prog Tryd.f46 (MayPost w (mayB ⟨k, t, n, a, l⟩ d)) .ret { tmps := tmps, defers := [] } V := fun b V tmps ht h2 hb e => by
    have k3 : V.cell? ⟨w.heap.size + 1 + 1, 0, none⟩ = some (.bool b) := (blk_cell h2 0).trans rfl
    exact bodyPost_ret (results_one rfl _ _ ⟨w.heap.size + 1 + 1, 0, none⟩ (.bool b) ht (by go_simp)) rfl ⟨by rw [e], hb⟩
  have HE := Aside0.mk hend
  clear hend hC hG
  have n4 := beq_no hk
  have HL := Aside0.mk (show (∀ h : l.length = 0, ((l.length : Int) == 0) = true) ∧ (∀ h : ¬ l.length = 0, ((l.length : Int) == 0) = false) from ⟨fun h => beq_iff_eq.2 (by omega), fun h => beq_eq_false_iff_ne.2 (by omega)⟩)
  by_cases h01 : k = 0 ∨ k = 1
  · have e : Aside0 (mayB ⟨k, t, n, a, l⟩ d = (decide (l.length = 0) && aloneB k t n)) := ⟨by rw [hV.out, if_pos h01]⟩
    clear hV hk
    have n01 : (k == 0) = true ∨ ((k == 0) = false ∧ (k == 1) = true) := by
      rcases h01 with h | h
      · exact .inl (beq_lit h)
      · exact .inr ⟨beq_no (by omega), beq_lit h⟩
    clear h01
    by_cases hz : l.length = 0
    · have z1 := HL.out.1 hz
      have e1 : Aside0 (aloneB k t n = mayB ⟨k, t, n, a, l⟩ d) := ⟨by rw [e.out, decide_eq_true hz, Bool.true_and]⟩
      clear hz e HL
      rcases n01 with n0 | ⟨n0, n1⟩
      all_goals
        go_enter Tryd.func46, Tryd.ntmps46
        go_wp2_with (go_at_call 70; refine (sexp_alone.calls k t n a A c l (aloneB k t n) _ (HG.out.below (allocs3 w _ _ _).1) (Kd.C_below HC.out (allocs3 w _ _ _).1) hc (alone_eq k t n a l)).mono ?_; rintro e W1 ⟨rfl, hB1⟩; have j2 := blk_below (allocs3 w _ _ _).2.2.2.1 hB1; have r0 := (blk_cell j2 0).trans (show _ = some (Value.bool false) from rfl); have r1 := blk_frozen j2 0)
        exact HE.out _ _ _ rfl ((blk_set j2 0 _).trans rfl) ((below_step (allocs3 w _ _ _).1 hB1).setCell (by show w.heap.size ≤ w.heap.size + 1 + 1; omega) _) e1.out
    · have z1 := HL.out.2 hz
      have e1 : Aside0 (false = mayB ⟨k, t, n, a, l⟩ d) := ⟨by rw [e.out, decide_eq_false hz, Bool.false_and]⟩
      clear hz e HL
      rcases n01 with n0 | ⟨n0, n1⟩
      all_goals
        go_enter Tryd.func46, Tryd.ntmps46
        go_wp2
        exact HE.out _ _ _ rfl (allocs3 w _ _ _).2.2.2.1 (allocs3 w _ _ _).1 e1.out
  · have n0 := beq_no (fun h => h01 (.inl h))
    have n1 := beq_no (fun h => h01 (.inr h))
    by_cases h2 : k = 2
    · have n2 := beq_lit h2
      have e : Aside0 (mayB ⟨k, t, n, a, l⟩ d = (decide (l.length = 0) && n == 0)) := ⟨by rw [hV.out, if_neg h01, if_pos h2]⟩
      clear hV hk h01 h2
      by_cases hz : l.length = 0
      · have z1 := HL.out.1 hz
        have e1 : Aside0 ((n == 0) = mayB ⟨k, t, n, a, l⟩ d) := ⟨by rw [e.out, decide_eq_true hz, Bool.true_and]⟩
        clear hz e HL
        go_enter Tryd.func46, Tryd.ntmps46
        go_wp2
        exact HE.out _ _ _ rfl (allocs3 w _ _ _).2.2.2.1 (allocs3 w _ _ _).1 e1.out
      · have z1 := HL.out.2 hz
        have e1 : Aside0 (false = mayB ⟨k, t, n, a, l⟩ d) := ⟨by rw [e.out, decide_eq_false hz, Bool.false_and]⟩
        clear hz e HL
        go_enter Tryd.func46, Tryd.ntmps46
        go_wp2
        exact HE.out _ _ _ rfl (allocs3 w _ _ _).2.2.2.1 (allocs3 w _ _ _).1 e1.out
    · have n2 := beq_no h2
      by_cases h3 : k = 3
      · have n3 := beq_lit h3
        have e : Aside0 (mayB ⟨k, t, n, a, l⟩ d = (decide (l.length = 0) && (n == 0 && t.toList == [46]))) := ⟨by rw [hV.out, if_neg h01, if_neg h2, if_pos h3]⟩
        clear hV hk h01 h2 h3
        by_cases hz : l.length = 0
        · have z1 := HL.out.1 hz
          by_cases hn : n = 0
          · have n5 := beq_lit hn
            have e1 : Aside0 ((t.toList == [46]) = mayB ⟨k, t, n, a, l⟩ d) := ⟨by rw [e.out, decide_eq_true hz, n5, Bool.true_and, Bool.true_and]⟩
            clear hz e HL hn
            go_enter Tryd.func46, Tryd.ntmps46
            go_wp2
            exact HE.out _ _ _ rfl (allocs3 w _ _ _).2.2.2.1 (allocs3 w _ _ _).1 e1.out
          · have n5 := beq_no hn
            have e1 : Aside0 (false = mayB ⟨k, t, n, a, l⟩ d) := ⟨by rw [e.out, decide_eq_true hz, n5, Bool.true_and, Bool.false_and]⟩
            clear hz e HL hn
            go_enter Tryd.func46, Tryd.ntmps46
            go_wp2
            exact HE.out _ _ _ rfl (allocs3 w _ _ _).2.2.2.1 (allocs3 w _ _ _).1 e1.out
        · have z1 := HL.out.2 hz
          have e1 : Aside0 (false = mayB ⟨k, t, n, a, l⟩ d) := ⟨by rw [e.out, decide_eq_false hz, Bool.false_and]⟩
          clear hz e HL
          go_enter Tryd.func46, Tryd.ntmps46
          go_wp2
          exact HE.out _ _ _ rfl (allocs3 w _ _ _).2.2.2.1 (allocs3 w _ _ _).1 e1.out
      · have n3 := beq_no h3
        have e : Aside0 (false = mayB ⟨k, t, n, a, l⟩ d) := ⟨by rw [hV.out, if_neg h01, if_neg h2, if_neg h3]⟩
        clear h01 h2 h3 hk hV HL
        go_enter Tryd.func46, Tryd.ntmps46
        go_wp2
        exact HE.out _ _ _ rfl (allocs3 w _ _ _).2.2.2.1 (allocs3 w _ _ _).1 e.out
theorem may_any : ∀ (N : Nat) (k : Int) (t : ByteArray) (n a d : Int) (l : List NodeS) (A : Option Addr) (c : Nat) (w : World), SizeOf.sizeOf (⟨k, t, n, a, l⟩ : NodeS) ≤ N → smallB ⟨k, t, n, a, l⟩ = true → k39.C w A l.length l → l.length ≤ c → GInv w →
    Calls Tryd.prog 46 #[.agg #[.int .i64 k, .string t, .int .i64 n, .int .i64 a, .slice A l.length c], .int .i64 d] w (MayPost w (mayB ⟨k, t, n, a, l⟩ d)) := by
  intro N
  induction N with
  | zero => intro k t n a d l A c w h; simp [S39.mk.sizeOf_spec] at h
  | succ N ihN =>
    intro k t n a d l A c w hN hs hC hc hG
    obtain ⟨s1, s2⟩ := small_open _ hs
    by_cases hk : k = 4
    · subst hk
      refine may_list t n a d l A c w s1 hC hc hG ?_
      rintro ⟨⟨⟨k', t', n', a', l'⟩, cs⟩, hm, hK⟩ W hB
      obtain ⟨A4, c4, e, h1, h2⟩ := node_cells (⟨(⟨k', t', n', a', l'⟩, cs), hm, hK⟩ : NodeAt w l)
      have hz := size_in ⟨4, t, n, a, l⟩ ⟨k', t', n', a', l'⟩ hm
      dsimp only at e h1 h2 hz ⊢
      rw [e]
      exact ihN k' t' n' a' (wrap64 (d + 1)) l' A4 c4 W (by omega) (s2 _ hm) (Kd.C_below h2 hB) h1 (hG.below hB)
    · exact may_leaf k t n a d l A c w s1 hC hc hG hk
def sexp_may.f (a0_0 : Int) (a0_1 : ByteArray) (a0_2 : Int) (a0_3 : Int) (l0_4 : List NodeS) (a1 : Int) : Option Bool := if smallB ⟨a0_0, a0_1, a0_2, a0_3, l0_4⟩ = true then some (mayB ⟨a0_0, a0_1, a0_2, a0_3, l0_4⟩ a1) else none
theorem sexp_may.calls (a0_0 : Int) (a0_1 : ByteArray) (a0_2 : Int) (a0_3 : Int) (A0_4 : Option Addr) (c0_4 : Nat) (l0_4 : List (S39)) (a1 : Int) (r : Bool) (w : World) (hG : GInv w) (hr0_4 : Kd.C k39 w A0_4 l0_4.length l0_4) (hc0_4 : l0_4.length ≤ c0_4) (h : sexp_may.f a0_0 a0_1 a0_2 a0_3 l0_4 a1 = some r) :
    Calls Tryd.prog 46 #[.agg #[.int .i64 a0_0, .string a0_1, .int .i64 a0_2, .int .i64 a0_3, .slice A0_4 l0_4.length c0_4], .int .i64 a1] w fun e w' => e = .returned (.bool r) ∧ Below w.heap.size w w' := by
  unfold sexp_may.f at h
  split at h
  · rename_i hs
    obtain rfl := Option.some.inj h
    exact may_any _ _ _ _ _ _ _ _ _ _ (Nat.le_refl _) hs hr0_4 hc0_4 hG
  · cases h
end Go.Proofs.YtngcojabofkbjaaDoor.P
namespace Go.Proofs.YtngcojabofkbjaaDoor.P
open Go.RowKit Go.Proofs.YtngcojabofkbjaaDoorW.PrintWords Go.Proofs.YtngcojabofkbjaaDoorW.PrintLast Go.Proofs.YtngcojabofkbjaaDoorW.PrintMore
set_option linter.unusedVariables false
set_option linter.unusedSimpArgs false
def sexp_May.f (a0_0 : Int) (a0_1 : ByteArray) (a0_2 : Int) (a0_3 : Int) (l0_4 : List (S39)) : Option (Bool) := (sexp_may.f a0_0 a0_1 a0_2 a0_3 l0_4 0).bind fun t320 => (some t320)
set_option maxHeartbeats 8000000 in
set_option maxRecDepth 100000 in
theorem sexp_May.calls (a0_0 : Int) (a0_1 : ByteArray) (a0_2 : Int) (a0_3 : Int) (A0_4 : Option Addr) (c0_4 : Nat) (l0_4 : List (S39)) (r : Bool) (w : World) (hG : GInv w) (hr0_4 : Kd.C k39 w A0_4 l0_4.length l0_4) (hc0_4 : l0_4.length ≤ c0_4) (h : sexp_May.f a0_0 a0_1 a0_2 a0_3 l0_4 = some r) :
    Calls Tryd.prog 25 #[.agg #[.int .i64 a0_0, .string a0_1, .int .i64 a0_2, .int .i64 a0_3, .slice A0_4 l0_4.length c0_4]] w fun e w' => e = .returned (.bool r) ∧ Below w.heap.size w w' := by
  have hu39 := Tryd.underlying39
  have HR0_4 := Aside0.mk hr0_4
  have HC0_4 := Aside0.mk hc0_4
  clear hr0_4 hc0_4
  have HB := Aside0.mk (Below.refl w.heap.size w)
  have H : ((sexp_may.f a0_0 a0_1 a0_2 a0_3 l0_4 0).bind fun t320 => (some t320)) = some r := h
  clear h
  replace H := Option.bind_eq_some_iff.mp H
  obtain ⟨t320, A20, H⟩ := H
  replace H : (some t320) = some r := H
  have A2 := Aside0.mk A20
  clear A20
  obtain rfl := Option.some.inj H
  go_enter Tryd.func25, Tryd.ntmps25
  go_wp2_with (first | ((with_reducible refine gate_dst (N := 1) rfl ?_); refine box_event ?hg (N := 1) ?hd (cs := #[.int .i64 a0_0, .string a0_1, .int .i64 a0_2, .int .i64 a0_3, .slice A0_4 l0_4.length c0_4]) (t := 39) ?hr ?_; (case hd => rfl); (case hg => rfl); (case hr => first | (go_simp; done) | (go_simp; rfl)); intro gb319 hg w3 hbox hb; have n0_ := Aside0.mk (below_step (by repeat (first | (with_reducible first | exact HB.out | apply below_alloc | apply pw_below_drewN | apply below_drew1) | exact HB.out)) hb); have n1_ := Aside0.mk (hbox); have n2_ := Aside0.mk ((by rw [hg]; exact (below_size (by repeat (first | (with_reducible first | exact HB.out | apply below_alloc | apply pw_below_drewN | apply below_drew1) | exact HB.out))) : w.heap.size ≤ gb319)); have n3_ := Aside0.mk ((by rw [hg]; exact (below_size (by repeat (first | (with_reducible first | exact HB.out | apply below_alloc | apply pw_below_drewN | apply below_drew1) | exact HB.out))) : w.heap.size ≤ gb319)); clear HB; have HB := n0_; have BK319 := n1_; have GW319 := n2_; have GE319 := n3_; clear n0_ n1_ n2_ n3_; clear hb hbox hg; have hcz4_0 : w3.cell? ⟨gb319, 0, none⟩ = some (.int .i64 a0_0) := (blk_cell BK319.out 0).trans rfl; have hcz4_1 : w3.cell? ⟨gb319, 1, none⟩ = some (.string a0_1) := (blk_cell BK319.out 1).trans rfl; have hcz4_2 : w3.cell? ⟨gb319, 2, none⟩ = some (.int .i64 a0_2) := (blk_cell BK319.out 2).trans rfl; have hcz4_3 : w3.cell? ⟨gb319, 3, none⟩ = some (.int .i64 a0_3) := (blk_cell BK319.out 3).trans rfl; have hcz4_4 : w3.cell? ⟨gb319, 4, none⟩ = some (.slice A0_4 l0_4.length c0_4) := (blk_cell BK319.out 4).trans rfl; have hfz4_0 := blk_frozen BK319.out 0; have hfz4_1 := blk_frozen BK319.out 1; have hfz4_2 := blk_frozen BK319.out 2; have hfz4_3 := blk_frozen BK319.out 3; have hfz4_4 := blk_frozen BK319.out 4) | ((with_reducible refine gate_callee (f := 46) rfl ?_); refine goesL_ (some 4) rfl rfl Tryd.func46 (by kernel_rfl) rfl #[.agg #[.int .i64 a0_0, .string a0_1, .int .i64 a0_2, .int .i64 a0_3, .slice A0_4 l0_4.length c0_4], .int .i64 0] rfl (by (try simp only [List.map_toArray, List.map_cons, List.map_nil]); first | done | rfl | (simp only [List.length_drop, List.length_take]; rfl)) ?_; (with_reducible refine (sexp_may.calls a0_0 a0_1 a0_2 a0_3 _ _ l0_4 0 t320 _ ?side1 ?side2 ?side3 A2.out).mono ?_); (case side1 => exact hG.below (by repeat (first | (with_reducible first | exact HB.out | apply below_alloc | apply pw_below_drewN | apply below_drew1 | refine below_set ?_ GE319.out) | exact HB.out))); (case side2 => repeat (first | exact (Kd.C_below HR0_4.out HB.out) | (with_reducible refine Kd.C_alloc ?_ _) | (with_reducible refine Kd.C_drewN ?_ _) | (with_reducible refine Kd.C_drew ?_))); (case side3 => exact HC0_4.out); rintro e w5 ⟨rfl, hb⟩; refine ⟨_, rfl, ?_⟩; have n0_ := Aside0.mk (blk_below (g := gb319) (o := .cells #[.int .i64 a0_0, .string a0_1, .int .i64 a0_2, .int .i64 a0_3, .slice A0_4 l0_4.length c0_4] 39 (0, 0)) (by (with_reducible repeat (first | refine blk_drewN ?_ _ | refine blk_drew ?_ | refine blk_alloc ?_ _)); exact BK319.out) hb); have n1_ := Aside0.mk (below_step (by repeat (first | (with_reducible first | exact HB.out | apply below_alloc | apply pw_below_drewN | apply below_drew1 | refine below_set ?_ GE319.out) | exact HB.out)) hb); clear BK319; clear HB; have BK319 := n0_; have HB := n1_; clear n0_ n1_; (try clear hb); (try clear hb2); (try clear hk); (try clear hi)))
  go_ret
  exact ⟨by first | rfl | (simp [] <;> rfl) | (simp [*] <;> rfl), by repeat (first | (with_reducible first | exact HB.out | apply below_alloc | apply pw_below_drewN | apply below_drew1 | refine below_set ?_ GE319.out) | exact HB.out)⟩
end Go.Proofs.YtngcojabofkbjaaDoor.P
namespace Go.Proofs.YtngcojabofkbjaaDoor.P
open Go.RowKit Go.Proofs.YtngcojabofkbjaaDoorW.PrintWords Go.Proofs.YtngcojabofkbjaaDoorW.PrintLast Go.Proofs.YtngcojabofkbjaaDoorW.PrintMore
set_option linter.unusedVariables false
set_option linter.unusedSimpArgs false
def shT (c : Nat) (t : TokS) : TokS := ⟨t.f0, t.f1, t.f2, t.f3 + c⟩
def shE (c : Nat) : List TokS ⊕ (Nat × Int) → List TokS ⊕ (Nat × Int)
  | .inl ts => .inl (ts.map (shT c))
  | .inr (p, e) => .inr (p + c, e)
def preE (ts : List TokS) : List TokS ⊕ (Nat × Int) → List TokS ⊕ (Nat × Int)
  | .inl us => .inl (ts ++ us)
  | .inr e => .inr e
theorem lexL_step (f m p : Nat) (b : UInt8) (r : List UInt8) : lexL (f + 1) m p (b :: r) = match lex1 (b :: r) with
    | none => .inr (p, 4)
    | some (kd, t, v, n) => if m = 0 then .inr (p, 2) else
      preE [⟨kd, ⟨t.toArray⟩, v, p⟩] (lexL f (m - 1) (p + n + skipN false ((b :: r).drop n)) (((b :: r).drop n).drop (skipN false ((b :: r).drop n)))) := by
  rw [lexL]
  cases h : lex1 (b :: r) with
  | none => rfl
  | some y =>
    obtain ⟨kd, t, v, n⟩ := y
    dsimp only
    by_cases hm : m = 0
    · rw [if_pos hm, if_pos hm]
    · rw [if_neg hm, if_neg hm]
      cases lexL f (m - 1) (p + n + skipN false ((b :: r).drop n)) (((b :: r).drop n).drop (skipN false ((b :: r).drop n))) <;> rfl
theorem lexL_shift (c : Nat) : ∀ f m p l, lexL f m (p + c) l = shE c (lexL f m p l) := by
  intro f
  induction f with
  | zero => intro m p l; rfl
  | succ f ih =>
    intro m p l
    cases l with
    | nil => rfl
    | cons b r =>
      rw [lexL_step, lexL_step]
      cases lex1 (b :: r) with
      | none => rfl
      | some x =>
        obtain ⟨kd, t, v, n⟩ := x
        simp only
        split
        · rfl
        · rw [show p + c + n + skipN false (List.drop n (b :: r)) = p + n + skipN false (List.drop n (b :: r)) + c from by omega, ih]
          cases lexL f (m - 1) (p + n + skipN false (List.drop n (b :: r))) (List.drop (skipN false (List.drop n (b :: r))) (List.drop n (b :: r))) with
          | inl ts => simp [shE, preE, shT]
          | inr e => rfl
theorem lexL_fuel : ∀ f g m p l, l.length < f → l.length < g → lexL f m p l = lexL g m p l := by
  intro f
  induction f with
  | zero => intro g m p l h _; omega
  | succ f ih =>
    intro g m p l hf hg
    obtain ⟨g, rfl⟩ : ∃ m, g = m + 1 := ⟨g - 1, by omega⟩
    cases l with
    | nil => rfl
    | cons b r =>
      rw [lexL_step, lexL_step]
      cases h : lex1 (b :: r) with
      | none => rfl
      | some x =>
        obtain ⟨kd, t, v, n⟩ := x
        obtain ⟨n1, n2⟩ := lex1_le _ _ _ _ _ h
        simp only
        split
        · rfl
        · rw [ih g]
          · simp only [List.length_drop]; omega
          · simp only [List.length_drop]; omega
def lx (m p : Nat) (l : List UInt8) : List TokS ⊕ (Nat × Int) := lexL (l.length + 1) m p l
def scan (m p : Nat) (l : List UInt8) : List TokS ⊕ (Nat × Int) := lx m (p + skipN false l) (l.drop (skipN false l))
theorem lx_nil (m p : Nat) : lx m p [] = .inl [] := rfl
theorem lx_cons (m p : Nat) (b : UInt8) (r : List UInt8) : lx m p (b :: r) = match lex1 (b :: r) with
    | none => .inr (p, 4)
    | some (kd, t, v, n) => if m = 0 then .inr (p, 2) else preE [⟨kd, ⟨t.toArray⟩, v, p⟩] (scan (m - 1) (p + n) ((b :: r).drop n)) := by
  unfold lx scan
  rw [lexL_step]
  cases h : lex1 (b :: r) with
  | none => rfl
  | some x =>
    obtain ⟨kd, t, v, n⟩ := x
    obtain ⟨n1, n2⟩ := lex1_le _ _ _ _ _ h
    simp only
    split
    · rfl
    · unfold lx
      rw [lexL_fuel _ ((((b :: r).drop n).drop (skipN false ((b :: r).drop n))).length + 1)]
      · simp only [List.length_drop]; omega
      · omega
theorem all_scan (l : List UInt8) : allL l = scan 1000 0 l := by
  unfold allL scan lx
  rw [Nat.zero_add]
  exact lexL_fuel _ _ _ _ _ (by simp only [List.length_drop]; omega) (by omega)
theorem scan_shift (c m p : Nat) (l : List UInt8) : scan m (p + c) l = shE c (scan m p l) := by
  unfold scan lx
  rw [show p + c + skipN false l = p + skipN false l + c from by omega, lexL_shift]
theorem skipN_t (x : UInt8) (r : List UInt8) : skipN true (x :: r) = 1 + skipN (x != 10) r := by simp only [skipN]
theorem skipN_f (x : UInt8) (r : List UInt8) : skipN false (x :: r) = if blankB x then 1 + skipN false r else if x = 47 ∧ r.head? = some 47 then 1 + skipN true r else 0 := by simp only [skipN]
theorem lf_step (u v n q : Nat) (h : u = if v = n then n + 1 + q else v) : 1 + u = if 1 + v = n + 1 then n + 1 + 1 + q else 1 + v := by
  by_cases e : v = n
  · rw [if_pos e] at h; rw [if_pos (by omega)]; omega
  · rw [if_neg e] at h; rw [if_neg (by omega)]; omega
theorem skipN_lf (a b : List UInt8) : ∀ c, skipN c (a ++ 10 :: b) = if skipN c a = a.length then a.length + 1 + skipN false b else skipN c a := by
  induction a with
  | nil => intro c; cases c <;> simp [skipN, blankB]
  | cons x r ih =>
    intro c
    rw [List.cons_append, List.length_cons]
    cases c
    · rw [skipN_f, skipN_f]
      by_cases hb : blankB x = true
      · rw [if_pos hb, if_pos hb]; exact lf_step _ _ _ _ (ih false)
      · rw [if_neg hb, if_neg hb]
        by_cases hc : x = 47 ∧ r.head? = some 47
        · have hc2 : x = 47 ∧ (r ++ 10 :: b).head? = some 47 := by
            refine ⟨hc.1, ?_⟩
            cases r with
            | nil => simp at hc
            | cons y r => simpa using hc.2
          rw [if_pos hc, if_pos hc2]; exact lf_step _ _ _ _ (ih true)
        · have hc2 : ¬ (x = 47 ∧ (r ++ 10 :: b).head? = some 47) := by
            rintro ⟨h1, h2⟩
            cases r with
            | nil => simp at h2
            | cons y r => exact hc ⟨h1, by simpa using h2⟩
          rw [if_neg hc, if_neg hc2, if_neg (by omega)]
    · rw [skipN_t, skipN_t]; exact lf_step _ _ _ _ (ih _)
theorem takeWhile_lf (p : UInt8 → Bool) (hp : p 10 = false) (r b : List UInt8) : (r ++ 10 :: b).takeWhile p = r.takeWhile p := by
  induction r with
  | nil => simp [hp]
  | cons x r ih => simp only [List.cons_append, List.takeWhile_cons, ih]
theorem runN_lf (p : UInt8 → Bool) (hp : p 10 = false) (x : UInt8) (r b : List UInt8) : runN p (x :: (r ++ 10 :: b)) = runN p (x :: r) := by
  simp only [runN]
  rw [takeWhile_lf p hp]
theorem markL_app (l x : List UInt8) (m : UInt8) (n : Nat) (h : markL l = some (m, n)) : markL (l ++ x) = some (m, n) := by
  cases l with
  | nil => cases h
  | cons d r =>
    simp only [markL, List.cons_append] at h ⊢
    by_cases h1 : d = 34
    · rw [if_pos h1] at h ⊢; exact h
    · rw [if_neg h1] at h ⊢
      by_cases h2 : d = 92
      · rw [if_pos h2] at h ⊢; exact h
      · rw [if_neg h2] at h ⊢
        by_cases h3 : d = 110
        · rw [if_pos h3] at h ⊢; exact h
        · rw [if_neg h3] at h ⊢
          by_cases h4 : d = 120
          · rw [if_pos h4] at h ⊢
            match r, h with
            | [], h => cases h
            | [a], h => cases h
            | a :: b :: r', h => exact h
          · rw [if_neg h4] at h; cases h
theorem strL_app (x : List UInt8) : ∀ (f g : Nat) (l t : List UInt8) (n : Nat), strL f l = some (t, n) → f ≤ g → strL g (l ++ x) = some (t, n) := by
  intro f
  induction f with
  | zero => intro g l t n h; simp [strL] at h
  | succ f ih =>
    intro g l t n h hg
    obtain ⟨g, rfl⟩ : ∃ m, g = m + 1 := ⟨g - 1, by omega⟩
    cases l with
    | nil => simp [strL] at h
    | cons c r =>
      simp only [strL, List.cons_append] at h ⊢
      by_cases h1 : c = 34
      · rw [if_pos h1] at h ⊢; exact h
      · rw [if_neg h1] at h ⊢
        by_cases h2 : c = 92
        · rw [if_pos h2] at h ⊢
          cases hm : markL r with
          | none => rw [hm] at h; cases h
          | some y =>
            obtain ⟨m, j⟩ := y
            rw [hm] at h
            obtain ⟨j1, j2⟩ := markL_le _ _ _ hm
            rw [markL_app r x m j hm]
            simp only at h ⊢
            obtain ⟨⟨t', n'⟩, h3, h4⟩ := Option.map_eq_some_iff.mp h
            rw [List.drop_append_of_le_length j2, ih g _ t' n' h3 (by omega)]
            rw [← h4]; rfl
        · rw [if_neg h2] at h ⊢
          by_cases h3 : c < 32
          · rw [if_pos h3] at h; cases h
          · rw [if_neg h3] at h ⊢
            by_cases h4 : c = 127
            · rw [if_pos h4] at h; cases h
            · rw [if_neg h4] at h ⊢
              obtain ⟨⟨t', n'⟩, h5, h6⟩ := Option.map_eq_some_iff.mp h
              rw [ih g _ t' n' h5 (by omega), ← h6]; rfl
theorem runN_take (p : UInt8 → Bool) (hp : p 10 = false) (c : UInt8) (r b : List UInt8) : (c :: (r ++ 10 :: b)).take (runN p (c :: (r ++ 10 :: b))) = (c :: r).take (runN p (c :: r)) := by
  rw [runN_lf p hp]
  have := runN_le p (c :: r)
  rw [← List.cons_append, List.take_append_of_le_length this]
theorem lex1_lf (a b : List UInt8) (y) (h : lex1 a = some y) : lex1 (a ++ 10 :: b) = some y := by
  cases a with
  | nil => cases h
  | cons c r =>
    have hn : nameU 10 = false := by decide
    have hu : numU 10 = false := by decide
    rw [List.cons_append, lex1_cons, runN_take nameU hn, runN_take numU hu, runN_lf nameU hn, runN_lf numU hu]
    rw [lex1_cons] at h
    split at h
    · cases h
    · rename_i h4
      rw [if_neg h4]
      split at h
      · rename_i h0; rw [if_pos h0]; exact h
      · rename_i h0
        rw [if_neg h0]
        split at h
        · rename_i h1; rw [if_pos h1]; exact h
        · rename_i h1
          rw [if_neg h1]
          split at h
          · rename_i h2
            rw [if_pos h2]
            obtain ⟨⟨t', n'⟩, h3, h4⟩ := Option.map_eq_some_iff.mp h
            rw [strL_app (10 :: b) _ _ r t' n' h3 (by simp), ← h4]; rfl
          · rename_i h2
            rw [if_neg h2]; exact h
theorem scan_len : ∀ (d m p : Nat) (a : List UInt8) (ts : List TokS), a.length ≤ d → scan m p a = .inl ts → ts.length ≤ a.length ∧ ts.length ≤ m := by
  intro d
  induction d with
  | zero =>
    intro m p a ts hd h
    obtain rfl : a = [] := List.length_eq_zero_iff.mp (by omega)
    simp only [scan, skipN, List.drop_nil, lx_nil, Sum.inl.injEq] at h
    subst h; simp
  | succ d ih =>
    intro m p a ts hd h
    unfold scan at h
    have hk := skipN_le false a
    generalize skipN false a = k at h hk
    cases hl : a.drop k with
    | nil => rw [hl, lx_nil] at h; simp only [Sum.inl.injEq] at h; subst h; simp
    | cons c r =>
      have hz := congrArg List.length hl
      rw [List.length_drop, List.length_cons] at hz
      rw [hl, lx_cons] at h
      cases hx : lex1 (c :: r) with
      | none => rw [hx] at h; cases h
      | some y =>
        obtain ⟨kd, t, v, n⟩ := y
        obtain ⟨n1, n2⟩ := lex1_le _ _ _ _ _ hx
        rw [hx] at h
        simp only at h
        split at h
        · cases h
        · rename_i hm
          cases hs : scan (m - 1) (p + k + n) ((c :: r).drop n) with
          | inr e => rw [hs] at h; cases h
          | inl us =>
            rw [hs] at h
            simp only [preE, Sum.inl.injEq] at h
            subst h
            simp only [List.length_cons] at n2
            obtain ⟨g1, g2⟩ := ih _ _ _ _ (by simp only [List.length_drop, List.length_cons]; omega) hs
            simp only [List.length_drop, List.length_cons] at g1
            simp only [List.length_append, List.length_cons, List.length_nil]
            omega
theorem preE_preE (a b : List TokS) (x) : preE a (preE b x) = preE (a ++ b) x := by cases x <;> simp [preE]
theorem scan_lf (b : List UInt8) : ∀ (d m p : Nat) (a : List UInt8) (ts : List TokS), a.length ≤ d → scan m p a = .inl ts → scan m p (a ++ 10 :: b) = preE ts (scan (m - ts.length) (p + a.length + 1) b) := by
  intro d
  induction d with
  | zero =>
    intro m p a ts hd h
    obtain rfl : a = [] := List.length_eq_zero_iff.mp (by omega)
    simp only [scan, skipN, List.drop_nil, lx_nil, Sum.inl.injEq] at h
    subst h
    unfold scan
    rw [skipN_lf]
    simp only [skipN, List.length_nil, if_true, List.nil_append]
    rw [show 0 + 1 + skipN false b = skipN false b + 1 from by omega, List.drop_succ_cons, show p + (skipN false b + 1) = p + 0 + 1 + skipN false b from by omega]
    cases lx (m - 0) (p + 0 + 1 + skipN false b) (b.drop (skipN false b)) <;> rfl
  | succ d ih =>
    intro m p a ts hd h
    unfold scan at h
    have hk := skipN_le false a
    by_cases hf : skipN false a = a.length
    · rw [hf, List.drop_length, lx_nil, Sum.inl.injEq] at h
      subst h
      unfold scan
      rw [skipN_lf, if_pos hf]
      have e : (a ++ 10 :: b).drop (a.length + 1 + skipN false b) = b.drop (skipN false b) := by
        rw [← List.drop_drop, show (a ++ 10 :: b).drop (a.length + 1) = b from by rw [show a ++ 10 :: b = (a ++ [10]) ++ b from by simp, show a.length + 1 = (a ++ [10]).length from by simp, List.drop_left]]
      rw [e, show p + (a.length + 1 + skipN false b) = p + a.length + 1 + skipN false b from by omega]
      simp only [List.length_nil, Nat.sub_zero]
      cases lx (m - 0) (p + a.length + 1 + skipN false b) (b.drop (skipN false b)) <;> rfl
    · have hs : scan m p (a ++ 10 :: b) = lx m (p + skipN false a) ((a ++ 10 :: b).drop (skipN false a)) := by
        unfold scan
        rw [skipN_lf, if_neg hf]
      rw [hs]
      generalize skipN false a = k at h hk hf
      rw [List.drop_append_of_le_length hk]
      cases hl : a.drop k with
      | nil =>
        have hz := congrArg List.length hl
        rw [List.length_drop, List.length_nil] at hz
        omega
      | cons c r =>
        have hz := congrArg List.length hl
        rw [List.length_drop, List.length_cons] at hz
        rw [hl, lx_cons] at h
        rw [List.cons_append, lx_cons]
        cases hx : lex1 (c :: r) with
        | none => rw [hx] at h; cases h
        | some y =>
          obtain ⟨kd, t, v, n⟩ := y
          obtain ⟨n1, n2⟩ := lex1_le _ _ _ _ _ hx
          have hx2 := lex1_lf _ b _ hx
          rw [List.cons_append] at hx2
          rw [hx] at h
          rw [hx2]
          simp only at h ⊢
          split at h
          · cases h
          · rename_i hm
            rw [if_neg hm]
            cases hs : scan (m - 1) (p + k + n) ((c :: r).drop n) with
            | inr e => rw [hs] at h; cases h
            | inl us =>
              rw [hs] at h
              simp only [preE, Sum.inl.injEq] at h
              subst h
              simp only [List.length_cons] at n2
              rw [← List.cons_append, List.drop_append_of_le_length (by simpa using n2), ih _ _ _ _ (by simp only [List.length_drop, List.length_cons]; omega) hs, preE_preE]
              simp only [List.length_append, List.length_cons, List.length_nil, List.length_drop]
              rw [show p + k + n + (r.length + 1 - n) + 1 = p + a.length + 1 from by omega, show m - 1 - us.length = m - (0 + 1 + us.length) from by omega]
theorem all_small (s : ByteArray) (h : s.size ≤ 5000) : token_All.f s = some (endL s [] (scan 1000 0 (bl s))) := by
  unfold token_All.f allF
  rw [if_neg (by omega), all_scan]
theorem bl_app (a b : ByteArray) : bl (a ++ b) = bl a ++ bl b := by simp [bl]
theorem scan_err : ∀ (d m p : Nat) (a : List UInt8) (q : Nat) (e : Int), a.length ≤ d → scan m p a = .inr (q, e) → (e = 4 ∨ e = 2) ∧ p ≤ q ∧ q < p + a.length := by
  intro d
  induction d with
  | zero =>
    intro m p a q e hd h
    obtain rfl : a = [] := List.length_eq_zero_iff.mp (by omega)
    simp only [scan, skipN, List.drop_nil, lx_nil] at h
    cases h
  | succ d ih =>
    intro m p a q e hd h
    unfold scan at h
    have hk := skipN_le false a
    generalize skipN false a = k at h hk
    cases hl : a.drop k with
    | nil => rw [hl, lx_nil] at h; cases h
    | cons c r =>
      have hz := congrArg List.length hl
      rw [List.length_drop, List.length_cons] at hz
      rw [hl, lx_cons] at h
      cases hx : lex1 (c :: r) with
      | none =>
        rw [hx] at h
        simp only [Sum.inr.injEq, Prod.mk.injEq] at h
        omega
      | some y =>
        obtain ⟨kd, t, v, n⟩ := y
        obtain ⟨n1, n2⟩ := lex1_le _ _ _ _ _ hx
        rw [hx] at h
        simp only at h
        split at h
        · simp only [Sum.inr.injEq, Prod.mk.injEq] at h
          omega
        · cases hs : scan (m - 1) (p + k + n) ((c :: r).drop n) with
          | inl us => rw [hs] at h; cases h
          | inr e' =>
            rw [hs] at h
            simp only [preE, Sum.inr.injEq] at h
            subst h
            simp only [List.length_cons] at n2
            have g := ih _ _ _ _ _ (by simp only [List.length_drop, List.length_cons]; omega) hs
            simp only [List.length_drop, List.length_cons] at g
            omega
end Go.Proofs.YtngcojabofkbjaaDoor.P
namespace Go.Proofs.YtngcojabofkbjaaDoor.P
end Go.Proofs.YtngcojabofkbjaaDoor.P
namespace Go.Proofs.YtngcojabofkbjaaDoor.P
open Go.RowKit Go.Proofs.YtngcojabofkbjaaDoorW.PrintWords Go.Proofs.YtngcojabofkbjaaDoorW.PrintLast Go.Proofs.YtngcojabofkbjaaDoorW.PrintMore
set_option linter.unusedVariables false
set_option linter.unusedSimpArgs false
theorem sb_size : (Tryd.prog.info? 65).map (·.size) = some 2 := by kernel_rfl
set_option maxHeartbeats 1000000 in
set_option maxRecDepth 100000 in
theorem sb_copyCheck_used (b : Nat) (w : World) (h0 : w.cell? ⟨b, 0, none⟩ = some (.pointer (some ⟨b, 0, none⟩))) :
    Calls Tryd.prog 68 #[.pointer (some ⟨b, 0, none⟩)] w fun e w' => e = .returned (.tuple #[]) ∧ w' = w := by
  obtain ⟨j, hj, _⟩ := Option.map_eq_some_iff.1 sb_size
  go_enter Tryd.func68, Tryd.ntmps68
  go_wp2
  rw [Lib.run_neq_ptr_same w _ Tryd.underlying62 hj]
  go_wp2
  go_end0
  exact ⟨rfl, rfl⟩
set_option maxHeartbeats 1000000 in
set_option maxRecDepth 100000 in
theorem sb_copyCheck_fresh (b : Nat) (w : World) (h0 : w.cell? ⟨b, 0, none⟩ = some (.pointer none)) (hsh : w.shape? b = some (65, 2)) (hfz : w.frozen? ⟨b, 0, none⟩ = false) :
    Calls Tryd.prog 68 #[.pointer (some ⟨b, 0, none⟩)] w fun e w' => e = .returned (.tuple #[]) ∧ w' = w.setCell ⟨b, 0, none⟩ (.pointer (some ⟨b, 0, none⟩)) := by
  obtain ⟨j, hj, hjs⟩ := Option.map_eq_some_iff.1 sb_size
  have lies := Tryd.Builder_Extra_169.liesBuilder
  go_enter Tryd.func68, Tryd.ntmps68
  go_wp2
  rw [Lib.run_to_unsafe w ⟨b, 0, none⟩ Tryd.underlying62 Tryd.underlying102 hj (by rw [hjs]; decide) hsh (Nat.zero_lt_succ 1)]
  simp only [Result.andThen]
  rw [Oper.upon_value]
  go_wp2
  rw [run_callFunc_extern Tryd.func80 (by kernel_rfl) (by kernel_rfl) (by kernel_rfl) (e := Extern.AbiNoEscape.same) (by kernel_rfl)]
  rw [Lib.run_noEscape]
  simp only [Result.andThen]
  rw [Oper.upon_value]
  go_wp2
  rw [Lib.run_from_unsafe w ⟨b, 0, none⟩ Tryd.underlying102 Tryd.underlying62 hj hsh lies]
  simp only [Result.andThen]
  rw [Oper.upon_value]
  go_wp2
  go_end0
  exact ⟨rfl, rfl⟩
theorem sb_copyCheck (B b : Nat) (bs : List Value) (w : World) (h : Lib.IsBuilder 65 5 B b bs w) :
    Calls Tryd.prog 68 #[.pointer (some ⟨b, 0, none⟩)] w fun e w' => e = .returned (.tuple #[]) ∧ (Lib.BuilderAt 65 5 B b (.pointer (some ⟨b, 0, none⟩)) bs w' ∧ Below B w w') := by
  rcases h with h | h
  · refine (sb_copyCheck_fresh b w h.cell0 h.shape h.frozen0).mono ?_
    rintro e w' ⟨rfl, rfl⟩
    exact ⟨rfl, h.used _, (Below.refl B w).setCell (p := ⟨b, 0, none⟩) h.1 _⟩
  · refine (sb_copyCheck_used b w h.cell0).mono ?_
    rintro e w' ⟨rfl, rfl⟩
    exact ⟨rfl, h, Below.refl B _⟩
theorem sb_infoByte : (Tryd.prog.info? 5).map (fun i => (i.zero, i.size, i.bytes)) = some (some (.int .u8 0), 1, 1) := by kernel_rfl
set_option maxHeartbeats 2000000 in
set_option maxRecDepth 100000 in
theorem sb_WriteByte (B b : Nat) (bs : List Value) (c : Int) (w : World) (h : Lib.IsBuilder 65 5 B b bs w) (hlen : bs.length + 1 ≤ 140737488355328) (hBw : B ≤ w.heap.size) :
    Calls Tryd.prog 41 #[.pointer (some ⟨b, 0, none⟩), .int .u8 c] w fun e w' => e = .returned .nilIface ∧ (Lib.BuilderAt 65 5 B b (.pointer (some ⟨b, 0, none⟩)) (bs ++ [.int .u8 c]) w' ∧ Below B w w') := by
  obtain ⟨i0, hi, hz0, hz1, hz2⟩ := info_parts sb_infoByte
  go_enter Tryd.func41, Tryd.ntmps41
  go_wp2_with (go_at_call 68; refine (sb_copyCheck B b bs _ h).mono ?_)
  rintro e w1 ⟨rfl, h1, hb1⟩
  obtain ⟨hB, v, hbk, hown, hne⟩ := h1
  have c0 : w1.cell? ⟨b, 0, none⟩ = some (.pointer (some ⟨b, 0, none⟩)) := by rw [Lib.cell_of_heap hbk]; rfl
  have c1 : w1.cell? ⟨b, 1, none⟩ = some v := by rw [Lib.cell_of_heap hbk]; rfl
  go_wp2_with (at_builtin; refine wpList_append_own _ rfl _ _ 63 rfl B 5 i0 (.int .u8 0) 1 1 Tryd.underlying63 hi hz0 hz1 hz2 rfl (by decide) _ _ _ rfl (hown.alloc _) ⟨w1.heap.size, 0, none⟩ 1 1 [.int .u8 c] rfl rfl ?c1 ?c2 ?c3 ?c4 ?c5 ?_)
  case c1 =>
    intro j u hj
    match j, hj with
    | 0, hj => simp at hj; subst hj; simp [Addr.add]
  case c2 => intro u hu; simp at hu; subst hu; rfl
  case c3 => unfold maxLen; omega
  case c4 => omega
  case c5 => have := hb1.size; simp; omega
  intro v' w2 hown' hgrow _
  have hlt : b < w1.heap.size := by
    rcases Nat.lt_or_ge b w1.heap.size with h' | h'
    · exact h'
    · simp [Array.getElem?_eq_none h'] at hbk
  have hb2 : w2.heap[b]? = some (.cells #[.pointer (some ⟨b, 0, none⟩), v] 65 (0, 0)) := by
    rw [hgrow.block b (by simp; omega) (fun e => hne e.symm), Lib.alloc_old w1 _ b hlt]
    exact hbk
  have d0 : w2.cell? ⟨b, 0, none⟩ = some (.pointer (some ⟨b, 0, none⟩)) := by rw [Lib.cell_of_heap hb2]; rfl
  have d1 : w2.cell? ⟨b, 1, none⟩ = some v := by rw [Lib.cell_of_heap hb2]; rfl
  have f1 : w2.frozen? ⟨b, 1, none⟩ = false := Lib.frozen_of_heap hb2 1
  obtain ⟨g, cap, rfl⟩ : ∃ g cap, v' = .slice (some ⟨g, 0, none⟩) (bs.length + 1) cap := by
    rcases hown'.2 with ⟨_, h0⟩ | ⟨g, cap, cur, hv, _⟩
    · omega
    · exact ⟨g, cap, hv⟩
  go_wp2
  go_ret
  refine ⟨rfl, ?_, ?_⟩
  · exact Lib.BuilderAt.put (T := 65) (e := 5) hB hb2 (bs' := bs ++ [.int .u8 c]) (by simpa using hown') (by decide)
  · exact ((hb1.alloc (by have := hb1.size; omega) _).grown hgrow (by have := hb1.size; simp; omega) (fun k hk => (hown.lt k hk).1)).setCell (p := ⟨b, 1, none⟩) hB _
set_option maxHeartbeats 2000000 in
set_option maxRecDepth 100000 in
theorem sb_WriteString (B b : Nat) (bs : List Value) (s : ByteArray) (w : World) (h : Lib.IsBuilder 65 5 B b bs w) (hlen : bs.length + s.size ≤ 140737488355328) (hBw : B ≤ w.heap.size) :
    Calls Tryd.prog 42 #[.pointer (some ⟨b, 0, none⟩), .string s] w fun e w' => e = .returned (.tuple #[.int .i64 s.size, .nilIface]) ∧ (Lib.BuilderAt 65 5 B b (.pointer (some ⟨b, 0, none⟩)) (bs ++ Lib.strCells s) w' ∧ Below B w w') := by
  obtain ⟨i0, hi, hz0, hz1, hz2⟩ := info_parts sb_infoByte
  go_enter Tryd.func42, Tryd.ntmps42
  go_wp2_with (go_at_call 68; refine (sb_copyCheck B b bs _ h).mono ?_)
  rintro e w1 ⟨rfl, h1, hb1⟩
  obtain ⟨hB, v, hbk, hown, hne⟩ := h1
  have c0 : w1.cell? ⟨b, 0, none⟩ = some (.pointer (some ⟨b, 0, none⟩)) := by rw [Lib.cell_of_heap hbk]; rfl
  have c1 : w1.cell? ⟨b, 1, none⟩ = some v := by rw [Lib.cell_of_heap hbk]; rfl
  go_wp2_with (at_builtin; refine Lib.wpList_append_own_string _ rfl _ _ 63 9 rfl B 5 i0 Tryd.underlying63 Tryd.underlying9 hi hz0 hz1 hz2 _ _ _ rfl hown s rfl ?c3 ?c4 ?c5 ?_)
  case c3 => unfold maxLen; omega
  case c4 => omega
  case c5 => have := hb1.size; omega
  intro v' w2 hown' hgrow _
  have hlt : b < w1.heap.size := by
    rcases Nat.lt_or_ge b w1.heap.size with h' | h'
    · exact h'
    · simp [Array.getElem?_eq_none h'] at hbk
  have hb2 : w2.heap[b]? = some (.cells #[.pointer (some ⟨b, 0, none⟩), v] 65 (0, 0)) := by
    rw [hgrow.block b hlt (fun e => hne e.symm)]
    exact hbk
  have d0 : w2.cell? ⟨b, 0, none⟩ = some (.pointer (some ⟨b, 0, none⟩)) := by rw [Lib.cell_of_heap hb2]; rfl
  have d1 : w2.cell? ⟨b, 1, none⟩ = some v := by rw [Lib.cell_of_heap hb2]; rfl
  have f1 : w2.frozen? ⟨b, 1, none⟩ = false := Lib.frozen_of_heap hb2 1
  obtain ⟨ao, n', cap, rfl⟩ : ∃ ao n' cap, v' = .slice ao n' cap := by
    rcases hown'.2 with ⟨hv, _⟩ | ⟨g, cap, cur, hv, _⟩
    · exact ⟨_, _, _, hv⟩
    · exact ⟨_, _, _, hv⟩
  go_wp2
  go_ret2
  refine ⟨rfl, ?_, ?_⟩
  · exact Lib.BuilderAt.put (T := 65) (e := 5) hB hb2 (bs' := bs ++ Lib.strCells s) (by simpa [Lib.strCells_length] using hown') (by decide)
  · exact (hb1.grown hgrow (by have := hb1.size; omega) (fun k hk => (hown.lt k hk).1)).setCell (p := ⟨b, 1, none⟩) hB _
end Go.Proofs.YtngcojabofkbjaaDoor.P
namespace Go.Proofs.YtngcojabofkbjaaDoor.P
open Go.RowKit Go.Proofs.YtngcojabofkbjaaDoorW.PrintWords Go.Proofs.YtngcojabofkbjaaDoorW.PrintLast Go.Proofs.YtngcojabofkbjaaDoorW.PrintMore
set_option linter.unusedVariables false
set_option linter.unusedSimpArgs false
def hexB (n : Nat) : UInt8 := if n < 10 then UInt8.ofNat (48 + n) else UInt8.ofNat (87 + n)
def quote1 (c : UInt8) : List UInt8 := if c = 34 ∨ c = 92 then [92, c] else if c = 10 then [92, 110] else if c < 32 ∨ 126 < c then [92, 120, hexB (c.toNat / 16), hexB (c.toNat % 16)] else [c]
def quoteL (l : List UInt8) : List UInt8 := 34 :: (l.flatMap quote1 ++ [34])
def token_Quote.f (a0 : ByteArray) : Option (ByteArray) := if a0.size ≤ 1000000000000 then some ⟨(quoteL a0.data.toList).toArray⟩ else none
theorem quote1_nat (c : UInt8) : quote1 c = if c.toNat = 34 ∨ c.toNat = 92 then [92, c] else if c.toNat = 10 then [92, 110] else if c.toNat < 32 ∨ 126 < c.toNat then [92, 120, hexB (c.toNat / 16), hexB (c.toNat % 16)] else [c] := by
  have e1 : c = 34 ↔ c.toNat = 34 := by rw [← UInt8.toNat_inj]; rfl
  have e2 : c = 92 ↔ c.toNat = 92 := by rw [← UInt8.toNat_inj]; rfl
  have e3 : c = 10 ↔ c.toNat = 10 := by rw [← UInt8.toNat_inj]; rfl
  have e4 : c < 32 ↔ c.toNat < 32 := by rw [UInt8.lt_iff_toNat_lt]; rfl
  have e5 : 126 < c ↔ 126 < c.toNat := by rw [UInt8.lt_iff_toNat_lt]; rfl
  unfold quote1
  simp only [e1, e2, e3, e4, e5]
theorem hex_at (k : Nat) (h : k < (⟨#[48, 49, 50, 51, 52, 53, 54, 55, 56, 57, 97, 98, 99, 100, 101, 102]⟩ : ByteArray).size) : (⟨#[48, 49, 50, 51, 52, 53, 54, 55, 56, 57, 97, 98, 99, 100, 101, 102]⟩ : ByteArray)[k] = hexB k := by
  have h16 : k < 16 := h
  have all : ∀ j : Fin 16, (⟨#[48, 49, 50, 51, 52, 53, 54, 55, 56, 57, 97, 98, 99, 100, 101, 102]⟩ : ByteArray)[j.val]'(j.isLt) = hexB j.val := by decide
  exact all ⟨k, h16⟩
theorem quote1_length (c : UInt8) : (quote1 c).length ≤ 4 := by
  unfold quote1; repeat' split
  all_goals simp
theorem flat_length (l : List UInt8) : (l.flatMap quote1).length ≤ 4 * l.length := by
  induction l with
  | nil => simp
  | cons c l ih => have := quote1_length c; simp only [List.flatMap_cons, List.length_append, List.length_cons]; omega
theorem take_snoc (s : ByteArray) (k : Nat) (h : k < s.size) : s.data.toList.take (k + 1) = s.data.toList.take k ++ [s[k]] := by
  rw [List.take_succ_eq_append_getElem (by simpa using h)]; rfl
def qAcc (s : ByteArray) (i : Nat) : List UInt8 := 34 :: (s.data.toList.take i).flatMap quote1
theorem qAcc_succ (s : ByteArray) (i : Nat) (h : i < s.size) : qAcc s (i + 1) = qAcc s i ++ quote1 s[i] := by
  unfold qAcc; rw [take_snoc s i h]; simp
theorem qAcc_length (s : ByteArray) (i : Nat) (h : i ≤ s.size) : (qAcc s i).length ≤ 4 * i + 1 := by
  unfold qAcc
  have h1 := flat_length (s.data.toList.take i)
  have h2 : (s.data.toList.take i).length ≤ i := List.length_take_le _ _
  simp only [List.length_cons]; omega
set_option maxHeartbeats 4000000 in
set_option maxRecDepth 100000 in
theorem token_Quote.calls (a0 : ByteArray) (r : ByteArray) (w : World) (h : token_Quote.f a0 = some r) :
    Calls Tryd.prog 19 #[.string a0] w fun e w' => e = .returned (.string r) ∧ Below w.heap.size w w' := by
  unfold token_Quote.f at h
  split at h
  · rename_i hs
    obtain rfl := Option.some.inj h
    clear h
    have HF := Aside0.mk (Lib.fresh_isBuilder 65 5 w)
    have HB := Aside0.mk (below_alloc (Below.refl w.heap.size w) (.cells #[.pointer none, .slice none 0 0] 65))
    go_enter Tryd.func19, Tryd.ntmps19
    go_wp2_with (go_at_call 41; refine (sb_WriteByte _ _ _ _ _ HF.out ?s1 ?s2).mono ?_; (case s1 => simp); (case s2 => exact HB.out.size); rintro e w1 ⟨rfl, h1, hb⟩; have n0_ := Aside0.mk h1; have n1_ := Aside0.mk (HB.out.trans hb); clear HF HB hb h1; have HD := n0_; have HB := n1_; clear n0_ n1_)
    have hl0 := qAcc_length a0 0 (by omega)
    go_loopg [9] a0.size (fun n v9 W => ∃ i : Nat, v9 = .int .i64 i ∧ Aside0 (i + n = a0.size) ∧ Aside0 (Lib.BuilderAt 65 5 w.heap.size w.heap.size (.pointer (some ⟨w.heap.size, 0, none⟩)) (Lib.byteCells (qAcc a0 i)) W) ∧ Aside0 (Below w.heap.size w W))
    case atStart => exact ⟨0, rfl, ⟨by omega⟩, ⟨by simpa [qAcc, Lib.byteCells] using HD.out⟩, ⟨HB.out⟩⟩
    case round =>
      clear HD HB hl0
      obtain ⟨i, rfl, HN, HD, HB⟩ := hrel
      have hle : i ≤ a0.size := by have := HN.out; omega
      have hl := qAcc_length a0 i hle
      by_cases hlt : i < a0.size
      · have HS := Aside0.mk (qAcc_succ a0 i hlt)
        have hc := Aside0.mk (a0[i].toNat_lt)
        have hbd : (a0[i].toNat : Int) ≤ 255 := by have := hc.out; omega
        cases gk with
        | zero => exact absurd HN.out (by omega)
        | succ k1 =>
          by_cases c34 : a0[i].toNat = 34
          · have b1 : ((a0[i].toNat : Int) == 34) = true := by simp [c34]
            have HQ := Aside0.mk (show quote1 a0[i] = [92, a0[i]] by rw [quote1_nat, if_pos (.inl c34)])
            clear c34
            go_wp2_with (first | (go_at_call 41; refine (sb_WriteByte _ _ _ _ _ (.inr HD.out) ?s1 ?s2).mono ?_; (case s1 => simp [Lib.byteCells, Lib.strCells]; omega); (case s2 => exact HB.out.size); rintro e w2 ⟨rfl, h1, hb⟩; have n0_ := Aside0.mk h1; have n1_ := Aside0.mk (HB.out.trans hb); clear HD HB hb h1; have HD := n0_; have HB := n1_; clear n0_ n1_) | (go_at_call 42; refine (sb_WriteString _ _ _ _ _ (.inr HD.out) ?s1 ?s2).mono ?_; (case s1 => rw [Lib.byteCells_length]; show _ + 2 ≤ _; omega); (case s2 => exact HB.out.size); rintro e w2 ⟨rfl, h1, hb⟩; have n0_ := Aside0.mk h1; have n1_ := Aside0.mk (HB.out.trans hb); clear HD HB hb h1; have HD := n0_; have HB := n1_; clear n0_ n1_))
            go_roundg k1
            case measure => omega
            case rel => exact ⟨i + 1, by go_num, ⟨by have := HN.out; omega⟩, ⟨by rw [HS.out, HQ.out]; simpa [Lib.byteCells, Lib.strCells] using HD.out⟩, ⟨HB.out⟩⟩
          · by_cases c92 : a0[i].toNat = 92
            · have b1 : ((a0[i].toNat : Int) == 34) = false := by rw [beq_eq_false_iff_ne]; omega
              have b2 : ((a0[i].toNat : Int) == 92) = true := by simp [c92]
              have HQ := Aside0.mk (show quote1 a0[i] = [92, a0[i]] by rw [quote1_nat, if_pos (.inr c92)])
              clear c34 c92
              go_wp2_with (first | (go_at_call 41; refine (sb_WriteByte _ _ _ _ _ (.inr HD.out) ?s1 ?s2).mono ?_; (case s1 => simp [Lib.byteCells, Lib.strCells]; omega); (case s2 => exact HB.out.size); rintro e w2 ⟨rfl, h1, hb⟩; have n0_ := Aside0.mk h1; have n1_ := Aside0.mk (HB.out.trans hb); clear HD HB hb h1; have HD := n0_; have HB := n1_; clear n0_ n1_) | (go_at_call 42; refine (sb_WriteString _ _ _ _ _ (.inr HD.out) ?s1 ?s2).mono ?_; (case s1 => rw [Lib.byteCells_length]; show _ + 2 ≤ _; omega); (case s2 => exact HB.out.size); rintro e w2 ⟨rfl, h1, hb⟩; have n0_ := Aside0.mk h1; have n1_ := Aside0.mk (HB.out.trans hb); clear HD HB hb h1; have HD := n0_; have HB := n1_; clear n0_ n1_))
              go_roundg k1
              case measure => omega
              case rel => exact ⟨i + 1, by go_num, ⟨by have := HN.out; omega⟩, ⟨by rw [HS.out, HQ.out]; simpa [Lib.byteCells, Lib.strCells] using HD.out⟩, ⟨HB.out⟩⟩
            · by_cases c10 : a0[i].toNat = 10
              · have b1 : ((a0[i].toNat : Int) == 34) = false := by rw [beq_eq_false_iff_ne]; omega
                have b2 : ((a0[i].toNat : Int) == 92) = false := by rw [beq_eq_false_iff_ne]; omega
                have b3 : ((a0[i].toNat : Int) == 10) = true := by simp [c10]
                have HQ := Aside0.mk (show quote1 a0[i] = [92, 110] by rw [quote1_nat, if_neg (by omega), if_pos c10])
                clear c34 c92 c10
                go_wp2_with (first | (go_at_call 41; refine (sb_WriteByte _ _ _ _ _ (.inr HD.out) ?s1 ?s2).mono ?_; (case s1 => simp [Lib.byteCells, Lib.strCells]; omega); (case s2 => exact HB.out.size); rintro e w2 ⟨rfl, h1, hb⟩; have n0_ := Aside0.mk h1; have n1_ := Aside0.mk (HB.out.trans hb); clear HD HB hb h1; have HD := n0_; have HB := n1_; clear n0_ n1_) | (go_at_call 42; refine (sb_WriteString _ _ _ _ _ (.inr HD.out) ?s1 ?s2).mono ?_; (case s1 => rw [Lib.byteCells_length]; show _ + 2 ≤ _; omega); (case s2 => exact HB.out.size); rintro e w2 ⟨rfl, h1, hb⟩; have n0_ := Aside0.mk h1; have n1_ := Aside0.mk (HB.out.trans hb); clear HD HB hb h1; have HD := n0_; have HB := n1_; clear n0_ n1_))
                go_roundg k1
                case measure => omega
                case rel => exact ⟨i + 1, by go_num, ⟨by have := HN.out; omega⟩, ⟨by rw [HS.out, HQ.out]; simpa [Lib.byteCells, Lib.strCells] using HD.out⟩, ⟨HB.out⟩⟩
              · have b1 : ((a0[i].toNat : Int) == 34) = false := by rw [beq_eq_false_iff_ne]; omega
                have b2 : ((a0[i].toNat : Int) == 92) = false := by rw [beq_eq_false_iff_ne]; omega
                have b3 : ((a0[i].toNat : Int) == 10) = false := by rw [beq_eq_false_iff_ne]; omega
                by_cases c32 : a0[i].toNat < 32
                · have b4 : decide ((a0[i].toNat : Int) < 32) = true := decide_eq_true (by omega)
                  have HQ := Aside0.mk (show quote1 a0[i] = [92, 120, hexB (a0[i].toNat / 16), hexB (a0[i].toNat % 16)] by rw [quote1_nat, if_neg (by omega), if_neg c10, if_pos (.inl c32)])
                  clear c34 c92 c10 c32
                  go_wp2_with (first | (go_at_call 41; refine (sb_WriteByte _ _ _ _ _ (.inr HD.out) ?s1 ?s2).mono ?_; (case s1 => simp [Lib.byteCells, Lib.strCells]; omega); (case s2 => exact HB.out.size); rintro e w2 ⟨rfl, h1, hb⟩; have n0_ := Aside0.mk h1; have n1_ := Aside0.mk (HB.out.trans hb); clear HD HB hb h1; have HD := n0_; have HB := n1_; clear n0_ n1_) | (go_at_call 42; refine (sb_WriteString _ _ _ _ _ (.inr HD.out) ?s1 ?s2).mono ?_; (case s1 => rw [Lib.byteCells_length]; show _ + 2 ≤ _; omega); (case s2 => exact HB.out.size); rintro e w2 ⟨rfl, h1, hb⟩; have n0_ := Aside0.mk h1; have n1_ := Aside0.mk (HB.out.trans hb); clear HD HB hb h1; have HD := n0_; have HB := n1_; clear n0_ n1_))
                  go_roundg k1
                  case measure => omega
                  case rel => exact ⟨i + 1, by go_num, ⟨by have := HN.out; omega⟩, ⟨by rw [HS.out, HQ.out]; have hd := HD.out; simp only [hex_at] at hd; simpa [Lib.byteCells, Lib.strCells] using hd⟩, ⟨HB.out⟩⟩
                · have b4 : decide ((a0[i].toNat : Int) < 32) = false := decide_eq_false (by omega)
                  by_cases c126 : 126 < a0[i].toNat
                  · have b5 : decide (126 < (a0[i].toNat : Int)) = true := decide_eq_true (by omega)
                    have HQ := Aside0.mk (show quote1 a0[i] = [92, 120, hexB (a0[i].toNat / 16), hexB (a0[i].toNat % 16)] by rw [quote1_nat, if_neg (by omega), if_neg c10, if_pos (.inr c126)])
                    clear c34 c92 c10 c32 c126
                    go_wp2_with (first | (go_at_call 41; refine (sb_WriteByte _ _ _ _ _ (.inr HD.out) ?s1 ?s2).mono ?_; (case s1 => simp [Lib.byteCells, Lib.strCells]; omega); (case s2 => exact HB.out.size); rintro e w2 ⟨rfl, h1, hb⟩; have n0_ := Aside0.mk h1; have n1_ := Aside0.mk (HB.out.trans hb); clear HD HB hb h1; have HD := n0_; have HB := n1_; clear n0_ n1_) | (go_at_call 42; refine (sb_WriteString _ _ _ _ _ (.inr HD.out) ?s1 ?s2).mono ?_; (case s1 => rw [Lib.byteCells_length]; show _ + 2 ≤ _; omega); (case s2 => exact HB.out.size); rintro e w2 ⟨rfl, h1, hb⟩; have n0_ := Aside0.mk h1; have n1_ := Aside0.mk (HB.out.trans hb); clear HD HB hb h1; have HD := n0_; have HB := n1_; clear n0_ n1_))
                    go_roundg k1
                    case measure => omega
                    case rel => exact ⟨i + 1, by go_num, ⟨by have := HN.out; omega⟩, ⟨by rw [HS.out, HQ.out]; have hd := HD.out; simp only [hex_at] at hd; simpa [Lib.byteCells, Lib.strCells] using hd⟩, ⟨HB.out⟩⟩
                  · have b5 : decide (126 < (a0[i].toNat : Int)) = false := decide_eq_false (by omega)
                    have HQ := Aside0.mk (show quote1 a0[i] = [a0[i]] by rw [quote1_nat, if_neg (by omega), if_neg c10, if_neg (by omega)])
                    clear c34 c92 c10 c32 c126
                    go_wp2_with (first | (go_at_call 41; refine (sb_WriteByte _ _ _ _ _ (.inr HD.out) ?s1 ?s2).mono ?_; (case s1 => simp [Lib.byteCells, Lib.strCells]; omega); (case s2 => exact HB.out.size); rintro e w2 ⟨rfl, h1, hb⟩; have n0_ := Aside0.mk h1; have n1_ := Aside0.mk (HB.out.trans hb); clear HD HB hb h1; have HD := n0_; have HB := n1_; clear n0_ n1_) | (go_at_call 42; refine (sb_WriteString _ _ _ _ _ (.inr HD.out) ?s1 ?s2).mono ?_; (case s1 => rw [Lib.byteCells_length]; show _ + 2 ≤ _; omega); (case s2 => exact HB.out.size); rintro e w2 ⟨rfl, h1, hb⟩; have n0_ := Aside0.mk h1; have n1_ := Aside0.mk (HB.out.trans hb); clear HD HB hb h1; have HD := n0_; have HB := n1_; clear n0_ n1_))
                    go_roundg k1
                    case measure => omega
                    case rel => exact ⟨i + 1, by go_num, ⟨by have := HN.out; omega⟩, ⟨by rw [HS.out, HQ.out]; simpa [Lib.byteCells, Lib.strCells] using HD.out⟩, ⟨HB.out⟩⟩
      · obtain rfl : i = a0.size := by omega
        have HD2 := Aside0.mk (show qAcc a0 a0.size ++ [34] = quoteL a0.data.toList by unfold qAcc quoteL; rw [List.take_of_length_le (by simp)]; rfl)
        have hd : decide ((a0.size : Int) < (a0.size : Int)) = false := decide_eq_false (by omega)
        go_wp2_with (first | (go_at_call 41; refine (sb_WriteByte _ _ _ _ _ (.inr HD.out) ?s1 ?s2).mono ?_; (case s1 => simp [Lib.byteCells, Lib.strCells]; omega); (case s2 => exact HB.out.size); rintro e w2 ⟨rfl, h1, hb⟩; have n0_ := Aside0.mk h1; have n1_ := Aside0.mk (HB.out.trans hb); clear HD HB hb h1; have HD := n0_; have HB := n1_; clear n0_ n1_) | (go_at_call 43; refine (Tryd.Builder_String_any _ _ (quoteL a0.data.toList) _ (.inr ?s1) HB.out.size).mono ?_; (case s1 => have := HD.out; rw [← HD2.out, Lib.byteCells_append]; exact this); rintro e w3 ⟨rfl, hb⟩))
        go_ret
        exact ⟨rfl, HB.out.trans hb⟩
  · cases h
end Go.Proofs.YtngcojabofkbjaaDoor.P
namespace Go.Proofs.YtngcojabofkbjaaDoor.P
open Go.RowKit Go.Proofs.YtngcojabofkbjaaDoorW.PrintWords Go.Proofs.YtngcojabofkbjaaDoorW.PrintLast Go.Proofs.YtngcojabofkbjaaDoorW.PrintMore
set_option linter.unusedVariables false
set_option linter.unusedSimpArgs false
theorem quoteF (a : ByteArray) (h : a.size ≤ 1000000000000) : token_Quote.f a = some ⟨(quoteL (bl a)).toArray⟩ := by
  unfold token_Quote.f
  rw [if_pos h]
end Go.Proofs.YtngcojabofkbjaaDoor.P
namespace Go.Proofs.YtngcojabofkbjaaDoor.P
open Go.RowKit Go.Proofs.YtngcojabofkbjaaDoorW.PrintWords Go.Proofs.YtngcojabofkbjaaDoorW.PrintLast Go.Proofs.YtngcojabofkbjaaDoorW.PrintMore
set_option linter.unusedVariables false
set_option linter.unusedSimpArgs false
mutual
def textN : NodeS → List UInt8
  | ⟨k, t, _, _, l⟩ => if k = 2 then quoteL (bl t) else if k = 4 then 40 :: (Lib.join (textL l) [32] ++ [41]) else bl t
def textL : List NodeS → List (List UInt8)
  | [] => []
  | x :: r => textN x :: textL r
end
theorem textL_map (l : List NodeS) : textL l = l.map textN := by
  induction l with
  | nil => rfl
  | cons x r ih => rw [textL, ih, List.map_cons]
def textS (x : NodeS) : ByteArray := ⟨(textN x).toArray⟩
def TextPost (w : World) (b : ByteArray) (e : Ending) (w' : World) : Prop := e = .returned (.string b) ∧ Below w.heap.size w w'
theorem opIn_append_own {F : Fence} {n : Nat} {P : Program} (w : World) {o : Oper} {a : Act} {K : Act → World → Prop} {Q : Exit → Act → World → Prop} (s x : Operand) (t : TypeId) (hop : o.op = Op.call { callee := Callee.builtin Builtin.append, args := #[s, x], argTypes := #[t, t] })
    (base : Nat) (e : TypeId) (i : TypeInfo) (z : Value) (size bytes : Nat) (h1 : P.underlying t = some (.slice e)) (h2 : P.info? e = some i) (h3 : i.zero = some z) (h4 : i.size = size) (h5 : i.bytes = bytes) (h6 : z.cells.size = size) (h7 : 0 < size)
    (v : Value) (k : Nat) (xs : List Value) (hs : a.eval s = v) (hown : w.ownsRow base e size v k xs) (ad : Addr) (m c : Nat) (news : List Value) (hx : a.eval x = .slice (some ad) m c) (hn : news.length = m * size)
    (hc : ∀ j u, news[j]? = some u → w.cell? (ad.add j) = some u) (h1c : ∀ u ∈ news, u.oneCell' = true) (b1 : k + m ≤ maxLen) (b2 : (k + m) * bytes ≤ 140737488355328) (b3 : base ≤ w.heap.size)
    (hK : ∀ v' w', w'.ownsRow base e size v' (k + m) (xs ++ news) → w.grownBy w' v.ownBlock → K (a.put o.dst v') w') : Oper.wpIn F n P o a w K Q := by
  obtain ⟨v', w', hrun, r1, r2, r3⟩ := run_append_own (P := P) w base t o.type e i z size bytes h1 h2 h3 h4 h5 h6 h7 v k xs hown ad m c news hn hc h1c b1 b2 b3
  unfold Oper.wpIn
  refine ⟨?_, ?_⟩
  · simp [Oper.about, hop, resolve, Target.leads, Sem.run_pure]
  · rw [Oper.semAt_plain F _ _ (by rw [hop]; intro c hc'; cases hc')]
    simp [execOp, hop, resolve, invoke, builtin, hs, hx, hrun, Result.andThen]
    exact hK v' w' r1 r2
theorem string_info : (Tryd.prog.info? 9).map (fun i => (i.zero, i.size, i.bytes)) = some (some (.string ⟨#[]⟩), 1, 16) := by kernel_rfl
def TextI (w wl : World) (l : List NodeS) (pre : List (NodeAt w l)) (W : World) : Prop := (∃ v, Boxed W (w.heap.size + 1) 48 v ∧ W.ownsRow w.heap.size 9 1 v pre.length (pre.map (fun y => .string (textS y.1.1))) ∧ True) ∧ (Below w.heap.size w W ∧ wl.heap.size ≤ W.heap.size)
theorem own_at_below {W W1 : World} {base n : Nat} {e : TypeId} {size : Nat} {v : Value} {xs : List Value} (h : W.ownsRow base e size v n xs) (hb : Below W.drew.heap.size W.drew W1) : W1.ownsRow base e size v n xs := own_move h (fun k hk => hb.block k (own_lt h k hk))
theorem drew_below {B : Nat} {W W1 : World} (h : Below B W.drew W1) : Below B W W1 := ⟨h.os, h.tape, h.output, h.size, h.block⟩
theorem text_step {w wl W W1 w1 : World} {l : List NodeS} {pre : List (NodeAt w l)} {y : NodeAt w l} {v v' : Value} (hv : Boxed W (w.heap.size + 1) 48 v) (ho : W.ownsRow w.heap.size 9 1 v pre.length (pre.map (fun y => .string (textS y.1.1)))) (kB : Below w.heap.size w W) (kz : wl.heap.size ≤ W.heap.size)
    (hB1 : Below W.drew.heap.size W.drew W1) (hown : w1.ownsRow w.heap.size 9 1 v' (pre.length + 1) (pre.map (fun y => .string (textS y.1.1)) ++ [.string (textS y.1.1)])) (hg : (W1.alloc (.cells #[.string (textS y.1.1)] 9)).grownBy w1 v.ownBlock) :
    (w1.cell? ⟨w.heap.size + 1, 0, none⟩ = some v ∧ w1.frozen? ⟨w.heap.size + 1, 0, none⟩ = false ∧ ∃ g cap, v' = .slice (some ⟨g, 0, none⟩) (pre.length + 1) cap) ∧
    (KeepsFrom wl.heap.size W (w1.setCell ⟨w.heap.size + 1, 0, none⟩ v') ∧ Below w.heap.size W (w1.setCell ⟨w.heap.size + 1, 0, none⟩ v') ∧ TextI w wl l (pre ++ [y]) (w1.setCell ⟨w.heap.size + 1, 0, none⟩ v')) := by
  have j1 : Boxed W1 (w.heap.size + 1) 48 v := blk_below (show W.drew.heap[w.heap.size + 1]? = some (.cells #[v] 48 (0, 0)) from hv) hB1
  have hs : W.heap.size ≤ W1.heap.size := hB1.size
  obtain ⟨q1, q2, q3, q4, q5⟩ := j1.appended (by decide) (own_at_below ho hB1) (Nat.le_trans kB.size hs) (Nat.le_succ _) hown hg
  have hWW : Below w.heap.size W W1 := drew_below (hB1.mono kB.size)
  refine ⟨⟨q1.cell, q1.frozen, ownsRow_succ hown⟩, (keeps_below (drew_below hB1)).trans (q4.from _), hWW.trans q5, ⟨_, q2, ?_, trivial⟩, kB.trans (hWW.trans q5), Nat.le_trans kz (hWW.trans q5).size⟩
  rw [List.length_append, List.map_append]
  exact q3
theorem join_any (xs : List ByteArray) (sep : ByteArray) (v : Value) (base : Nat) (W : World) (ho : W.ownsRow base 9 1 v xs.length (xs.map .string)) (hN : xs.length ≤ 140737488355328) (hlen : (Lib.join (xs.map (·.data.toList)) sep.data.toList).length ≤ 140737488355328) :
    Calls Tryd.prog 73 #[v, .string sep] W fun e w' => e = .returned (.string ⟨(Lib.join (xs.map (·.data.toList)) sep.data.toList).toArray⟩) ∧ Below W.heap.size W w' := by
  have hz : ∀ a c, xs.length = 0 → Calls Tryd.prog 73 #[.slice a 0 c, .string sep] W fun e w' => e = .returned (.string ⟨(Lib.join (xs.map (·.data.toList)) sep.data.toList).toArray⟩) ∧ Below W.heap.size W w' := by
    intro a c h0
    obtain rfl := List.length_eq_zero_iff.1 h0
    refine (Tryd.strings_Join_none a c sep W).mono ?_
    rintro e w' ⟨rfl, rfl⟩
    exact ⟨rfl, Below.refl _ _⟩
  have hc := fun (g : Nat) (hg : v.ownBlock = some g) => World.ownsRow.cells ho hg
  rcases ho.2 with ⟨rfl, h0⟩ | ⟨g, cap, cur, rfl, hg, hh, hle, hcap, hsz, htake⟩
  · exact hz none 0 h0
  · by_cases h0 : xs.length = 0
    · rw [h0]; exact hz _ _ h0
    · refine Tryd.strings_Join g 0 cap xs sep W ?_ (Array.getElem?_eq_some_iff.1 hh).1 hN hle hlen
      intro j x hj
      have := hc g rfl j (.string x) (by rw [List.getElem?_map, hj]; rfl)
      rw [add_plain] at this
      rw [Nat.zero_add]
      exact this
theorem mk_append (a b : List UInt8) : (⟨a.toArray⟩ : ByteArray) ++ (⟨b.toArray⟩ : ByteArray) = ⟨(a ++ b).toArray⟩ := by
  apply eq_of_bl
  rw [bl_app]
attribute [local go_sem] Oper.semAt_some
set_option maxRecDepth 100000 in
set_option maxHeartbeats 4000000 in
theorem text_list (t : ByteArray) (n a : Int) (l : List NodeS) (A : Option Addr) (c : Nat) (w : World) (hl : l.length ≤ 1000000000000) (hT : (textN ⟨4, t, n, a, l⟩).length ≤ 1000000000000) (hC : k39.C w A l.length l) (hc : l.length ≤ c)
    (ih : ∀ (y : NodeAt w l) (W : World), Below w.heap.size w W → Calls Tryd.prog 51 #[.agg y.1.2] W (TextPost W (textS y.1.1))) :
    Calls Tryd.prog 51 #[.agg #[.int .i64 4, .string t, .int .i64 n, .int .i64 a, .slice A l.length c]] w (TextPost w (textS ⟨4, t, n, a, l⟩)) := by
  refine (callsIn_wide (n := 5)).1 ?_
  refine callsIn_of_wp_marks Tryd.func51 rfl trivial ?_ rfl
  simp only [Tryd.ntmps51, List.size_toArray, List.length_cons, List.length_nil, Nat.reduceAdd, Nat.reduceSub, Array.replicate_succ, Array.replicate_zero, List.push_toArray, List.append_toArray, List.nil_append, List.cons_append]
  have IH := Aside0.mk ih
  have HC := Aside0.mk hC
  have HL := Aside0.mk hl
  have HT := Aside0.mk hT
  clear ih hC hl hT
  gi_wp2_with (refine ⟨trivial, ?_⟩; gi_at_call 71; refine (each_any _ _ rfl _).mono ?_; rintro e w' ⟨rfl, rfl⟩)
  obtain ⟨b0, h0, h1, h2, hz⟩ := allocs3 w (.cells #[.int .i64 4, .string t, .int .i64 n, .int .i64 a, .slice A l.length c] TN) (.cells #[.slice none 0 0] 48) (.cells #[.int .i64 4, .string t, .int .i64 n, .int .i64 a, .slice A l.length c] TN)
  generalize (((w.alloc (.cells #[.int .i64 4, .string t, .int .i64 n, .int .i64 a, .slice A l.length c] TN)).alloc (.cells #[.slice none 0 0] 48)).alloc (.cells #[.int .i64 4, .string t, .int .i64 n, .int .i64 a, .slice A l.length c] TN)) = wl at *
  have HB0 := Aside0.mk b0
  have HZ := Aside0.mk hz
  clear b0 hz
  refine range_each 4 (w.heap.size + 1 + 1) w ⟨4, t, n, a, l⟩ A c (Nat.le_trans HL.out (by decide)) HC.out HB0.out ((blk_cell h2 4).trans rfl) rfl
    (TextI w wl l)
    (fun _ _ _ => False)
    (OwnFrom.and (Own.from (holdsRow_own w.heap.size (w.heap.size + 1) 48 9 1 (fun (pre : List (NodeAt w l)) => pre.length) (fun (pre : List (NodeAt w l)) => pre.map (fun y => .string (textS y.1.1))) (fun _ _ => True)) _) (OwnFrom.and (ownFrom_below (Nat.le_refl _) HB0.out.size) (fun s W W' row hs hg _ => Nat.le_trans hs hg.size)))
    (fun _ _ _ _ _ hs _ _ => hs)
    ⟨⟨_, h1, World.ownsRow_nil _ _ _ _, trivial⟩, HB0.out, Nat.le_refl _⟩ ?assign ?body (fun _ _ h => h.2.2) ?done ?stop
  case assign =>
    intro lp y W K hK
    obtain ⟨Ay, cy, hy, _⟩ := node_cells y
    rw [hy] at hK ⊢
    gi_wp2
    exact hK
  case body =>
    rintro lp pre y Bx W hlp hr ⟨⟨v, hv, ho, _⟩, kB, kz⟩ hBx kx hlt
    obtain ⟨Ay, cy, hy, _⟩ := node_cells y
    rw [hy] at kx ⊢
    have x0 : W.cell? ⟨Bx, 0, none⟩ = some (.int .i64 y.1.1.f0) := (blk_cell kx 0).trans rfl
    have x1 : W.cell? ⟨Bx, 1, none⟩ = some (.string y.1.1.f1) := (blk_cell kx 1).trans rfl
    have x2 : W.cell? ⟨Bx, 2, none⟩ = some (.int .i64 y.1.1.f2) := (blk_cell kx 2).trans rfl
    have x3 : W.cell? ⟨Bx, 3, none⟩ = some (.int .i64 y.1.1.f3) := (blk_cell kx 3).trans rfl
    have x4 : W.cell? ⟨Bx, 4, none⟩ = some (.slice Ay y.1.1.f4.length cy) := (blk_cell kx 4).trans rfl
    have v0 := hv.cell
    have v1 := hv.frozen
    have hIY := Aside0.mk (fun V hV => IH.out y V hV)
    rw [hy] at hIY
    have HV := Aside0.mk hv
    have HO := Aside0.mk ho
    have KB := Aside0.mk kB
    have KZ := Aside0.mk kz
    clear hy kx hv ho kB kz h0 h1 h2
    gi_wp2
    have HS := Aside0.mk (fun (W1 : World) (v' : Value) (w1 : World) (p1 : Below W.drew.heap.size W.drew W1) p2 p3 => (text_step (wl := wl) (y := y) (v' := v') (w1 := w1) HV.out HO.out KB.out KZ.out p1 p2 p3).1)
    have HF := Aside0.mk (fun (W1 : World) (v' : Value) (w1 : World) (b : Act) (p1 : Below W.drew.heap.size W.drew W1) p2 p3 => (show ownPostG wl.heap.size (Below w.heap.size) (TextI w wl l) (fun _ _ _ => False) (pre ++ [y]) W .normal b _ from (text_step (wl := wl) (y := y) (v' := v') (w1 := w1) HV.out HO.out KB.out KZ.out p1 p2 p3).2))
    have HN : Aside0 (pre.length + 1 ≤ 1000000000000) := ⟨Nat.le_trans hlt HL.out⟩
    obtain ⟨i0, hi, hz0, hz1, hz2⟩ := info_parts string_info
    refine wpIn_region_any (by kernel_rfl) ?_
    change wpAnyIn _ _ _ _ _ _ _ _ _ (World.drew _)
    refine wpAnyIn_ready (rs := [0, 1]) (by kernel_rfl) (by simp) ?_
    refine AllReadyIn.cons rfl (fun K hK => ?_) (AllReadyIn.cons rfl (fun K hK => ?_) AllReadyIn.nil)
    · go_simp
      refine hK _ _ ?_
      clear hK K
      refine wpAnyIn_ready (rs := [1]) (by kernel_rfl) (by simp) ?_
      refine AllReadyIn.cons rfl (fun K hK => ?_) AllReadyIn.nil
      go_simp
      refine hK _ _ ?_
      clear hK K
      refine wpAnyIn_ready (rs := [2]) (by kernel_rfl) (by simp) ?_
      refine AllReadyIn.cons rfl (fun K hK => ?_) AllReadyIn.nil
      go_simp
      refine ⟨trivial, ?_⟩
      refine (CallsIn.inRound lp (callsIn_wide.2 (hIY.out _ (below_drew KB.out)))).mono ?_
      rintro e W1 ⟨rfl, hB1⟩
      have j1 : Boxed W1 (w.heap.size + 1) 48 v := blk_below (show W.drew.heap[w.heap.size + 1]? = some (.cells #[v] 48 (0, 0)) from HV.out) hB1
      have v2 := j1.cell
      have v3 := j1.frozen
      have HJ := Aside0.mk j1
      have HB1 := Aside0.mk hB1
      clear j1 hB1
      refine hK _ _ ?_
      clear hK K
      refine wpAnyIn_ready (rs := [3]) (by kernel_rfl) (by simp) ?_
      refine AllReadyIn.cons rfl (fun K hK => ?_) AllReadyIn.nil
      go_simp
      refine hK _ _ ?_
      clear hK K
      have v4 := pw_cell_below (below_alloc (Below.refl _ W1) (.cells #[.string (textS y.1.1)] 9 (0, 0))) v2
      refine wpAnyIn_ready (rs := [4]) (by kernel_rfl) (by simp) ?_
      refine AllReadyIn.cons rfl (fun K hK => ?_) AllReadyIn.nil
      refine opIn_append_own _ (.tmp 17) (.tmp 20) 48 rfl w.heap.size 9 i0 (.string ⟨#[]⟩) 1 16 Tryd.underlying48 hi hz0 hz1 hz2 rfl (by decide) v pre.length (pre.map (fun y => .string (textS y.1.1))) rfl ((own_at_below HO.out HB1.out).alloc _) ⟨W1.heap.size, 0, none⟩ 1 1 [.string (textS y.1.1)] rfl rfl (cell_one_new _ _ _) (by simp [Value.oneCell']) (by have := HN.out; unfold maxLen; omega) (by have := HN.out; omega) (Nat.le_trans (Nat.le_trans KB.out.size (show W.heap.size ≤ W1.heap.size from HB1.out.size)) (by simp)) ?_
      intro v' w1 hown1 hg1
      refine hK _ _ ?_
      clear hK K
      have HW := Aside0.mk (And.intro hown1 hg1)
      obtain ⟨k0, k1, g3, c3, rfl⟩ := HS.out W1 v' w1 HB1.out hown1 hg1
      clear hown1 hg1
      refine wpAnyIn_ready (rs := [5]) (by kernel_rfl) (by simp) ?_
      refine AllReadyIn.cons rfl (fun K hK => ?_) AllReadyIn.nil
      go_simp
      refine hK _ _ ?_
      clear hK K
      refine wpAnyIn_done (by kernel_rfl) ?_ _
      exact HF.out W1 _ w1 ⟨#[], []⟩ HB1.out HW.out.1 HW.out.2
    · go_simp
      refine hK _ _ ?_
      clear hK K
      refine wpAnyIn_ready (rs := [0, 2]) (by kernel_rfl) (by simp) ?_
      refine AllReadyIn.cons rfl (fun K hK => ?_) (AllReadyIn.cons rfl (fun K hK => ?_) AllReadyIn.nil)
      · go_simp
        refine hK _ _ ?_
        clear hK K
        refine wpAnyIn_ready (rs := [2]) (by kernel_rfl) (by simp) ?_
        refine AllReadyIn.cons rfl (fun K hK => ?_) AllReadyIn.nil
        go_simp
        refine ⟨trivial, ?_⟩
        refine (CallsIn.inRound lp (callsIn_wide.2 (hIY.out _ (below_drew KB.out)))).mono ?_
        rintro e W1 ⟨rfl, hB1⟩
        have j1 : Boxed W1 (w.heap.size + 1) 48 v := blk_below (show W.drew.heap[w.heap.size + 1]? = some (.cells #[v] 48 (0, 0)) from HV.out) hB1
        have v2 := j1.cell
        have v3 := j1.frozen
        have HJ := Aside0.mk j1
        have HB1 := Aside0.mk hB1
        clear j1 hB1
        refine hK _ _ ?_
        clear hK K
        refine wpAnyIn_ready (rs := [3]) (by kernel_rfl) (by simp) ?_
        refine AllReadyIn.cons rfl (fun K hK => ?_) AllReadyIn.nil
        go_simp
        refine hK _ _ ?_
        clear hK K
        have v4 := pw_cell_below (below_alloc (Below.refl _ W1) (.cells #[.string (textS y.1.1)] 9 (0, 0))) v2
        refine wpAnyIn_ready (rs := [4]) (by kernel_rfl) (by simp) ?_
        refine AllReadyIn.cons rfl (fun K hK => ?_) AllReadyIn.nil
        refine opIn_append_own _ (.tmp 17) (.tmp 20) 48 rfl w.heap.size 9 i0 (.string ⟨#[]⟩) 1 16 Tryd.underlying48 hi hz0 hz1 hz2 rfl (by decide) v pre.length (pre.map (fun y => .string (textS y.1.1))) rfl ((own_at_below HO.out HB1.out).alloc _) ⟨W1.heap.size, 0, none⟩ 1 1 [.string (textS y.1.1)] rfl rfl (cell_one_new _ _ _) (by simp [Value.oneCell']) (by have := HN.out; unfold maxLen; omega) (by have := HN.out; omega) (Nat.le_trans (Nat.le_trans KB.out.size (show W.heap.size ≤ W1.heap.size from HB1.out.size)) (by simp)) ?_
        intro v' w1 hown1 hg1
        refine hK _ _ ?_
        clear hK K
        have HW := Aside0.mk (And.intro hown1 hg1)
        obtain ⟨k0, k1, g3, c3, rfl⟩ := HS.out W1 v' w1 HB1.out hown1 hg1
        clear hown1 hg1
        refine wpAnyIn_ready (rs := [5]) (by kernel_rfl) (by simp) ?_
        refine AllReadyIn.cons rfl (fun K hK => ?_) AllReadyIn.nil
        go_simp
        refine hK _ _ ?_
        clear hK K
        refine wpAnyIn_done (by kernel_rfl) ?_ _
        exact HF.out W1 _ w1 ⟨#[], []⟩ HB1.out HW.out.1 HW.out.2
      · go_simp
        refine ⟨trivial, ?_⟩
        refine (CallsIn.inRound lp (callsIn_wide.2 (hIY.out _ (below_drew KB.out)))).mono ?_
        rintro e W1 ⟨rfl, hB1⟩
        have j1 : Boxed W1 (w.heap.size + 1) 48 v := blk_below (show W.drew.heap[w.heap.size + 1]? = some (.cells #[v] 48 (0, 0)) from HV.out) hB1
        have v2 := j1.cell
        have v3 := j1.frozen
        have HJ := Aside0.mk j1
        have HB1 := Aside0.mk hB1
        clear j1 hB1
        refine hK _ _ ?_
        clear hK K
        refine wpAnyIn_ready (rs := [0, 3]) (by kernel_rfl) (by simp) ?_
        refine AllReadyIn.cons rfl (fun K hK => ?_) (AllReadyIn.cons rfl (fun K hK => ?_) AllReadyIn.nil)
        · go_simp
          refine hK _ _ ?_
          clear hK K
          refine wpAnyIn_ready (rs := [3]) (by kernel_rfl) (by simp) ?_
          refine AllReadyIn.cons rfl (fun K hK => ?_) AllReadyIn.nil
          go_simp
          refine hK _ _ ?_
          clear hK K
          have v4 := pw_cell_below (below_alloc (Below.refl _ W1) (.cells #[.string (textS y.1.1)] 9 (0, 0))) v2
          refine wpAnyIn_ready (rs := [4]) (by kernel_rfl) (by simp) ?_
          refine AllReadyIn.cons rfl (fun K hK => ?_) AllReadyIn.nil
          refine opIn_append_own _ (.tmp 17) (.tmp 20) 48 rfl w.heap.size 9 i0 (.string ⟨#[]⟩) 1 16 Tryd.underlying48 hi hz0 hz1 hz2 rfl (by decide) v pre.length (pre.map (fun y => .string (textS y.1.1))) rfl ((own_at_below HO.out HB1.out).alloc _) ⟨W1.heap.size, 0, none⟩ 1 1 [.string (textS y.1.1)] rfl rfl (cell_one_new _ _ _) (by simp [Value.oneCell']) (by have := HN.out; unfold maxLen; omega) (by have := HN.out; omega) (Nat.le_trans (Nat.le_trans KB.out.size (show W.heap.size ≤ W1.heap.size from HB1.out.size)) (by simp)) ?_
          intro v' w1 hown1 hg1
          refine hK _ _ ?_
          clear hK K
          have HW := Aside0.mk (And.intro hown1 hg1)
          obtain ⟨k0, k1, g3, c3, rfl⟩ := HS.out W1 v' w1 HB1.out hown1 hg1
          clear hown1 hg1
          refine wpAnyIn_ready (rs := [5]) (by kernel_rfl) (by simp) ?_
          refine AllReadyIn.cons rfl (fun K hK => ?_) AllReadyIn.nil
          go_simp
          refine hK _ _ ?_
          clear hK K
          refine wpAnyIn_done (by kernel_rfl) ?_ _
          exact HF.out W1 _ w1 ⟨#[], []⟩ HB1.out HW.out.1 HW.out.2
        · go_simp
          refine hK _ _ ?_
          clear hK K
          have v4 := pw_cell_below (below_alloc (Below.refl _ W1) (.cells #[.string (textS y.1.1)] 9 (0, 0))) v2
          refine wpAnyIn_ready (rs := [0]) (by kernel_rfl) (by simp) ?_
          refine AllReadyIn.cons rfl (fun K hK => ?_) AllReadyIn.nil
          go_simp
          refine hK _ _ ?_
          clear hK K
          refine wpAnyIn_ready (rs := [4]) (by kernel_rfl) (by simp) ?_
          refine AllReadyIn.cons rfl (fun K hK => ?_) AllReadyIn.nil
          refine opIn_append_own _ (.tmp 17) (.tmp 20) 48 rfl w.heap.size 9 i0 (.string ⟨#[]⟩) 1 16 Tryd.underlying48 hi hz0 hz1 hz2 rfl (by decide) v pre.length (pre.map (fun y => .string (textS y.1.1))) rfl ((own_at_below HO.out HB1.out).alloc _) ⟨W1.heap.size, 0, none⟩ 1 1 [.string (textS y.1.1)] rfl rfl (cell_one_new _ _ _) (by simp [Value.oneCell']) (by have := HN.out; unfold maxLen; omega) (by have := HN.out; omega) (Nat.le_trans (Nat.le_trans KB.out.size (show W.heap.size ≤ W1.heap.size from HB1.out.size)) (by simp)) ?_
          intro v' w1 hown1 hg1
          refine hK _ _ ?_
          clear hK K
          have HW := Aside0.mk (And.intro hown1 hg1)
          obtain ⟨k0, k1, g3, c3, rfl⟩ := HS.out W1 v' w1 HB1.out hown1 hg1
          clear hown1 hg1
          refine wpAnyIn_ready (rs := [5]) (by kernel_rfl) (by simp) ?_
          refine AllReadyIn.cons rfl (fun K hK => ?_) AllReadyIn.nil
          go_simp
          refine hK _ _ ?_
          clear hK K
          refine wpAnyIn_done (by kernel_rfl) ?_ _
          exact HF.out W1 _ w1 ⟨#[], []⟩ HB1.out HW.out.1 HW.out.2
  case done =>
    rintro D ys W hD hys ⟨⟨v, hv, ho, _⟩, kB, kz⟩ hK
    have hys' : ys.map (fun y => textS y.1.1) = l.map textS := by
      have := congrArg (List.map textS) hys
      rw [List.map_map] at this
      exact this
    have hmap : ys.map (fun y => Value.string (textS y.1.1)) = (l.map textS).map .string := by rw [← hys', List.map_map]; rfl
    have hlen : ys.length = (l.map textS).length := by rw [← hys', List.length_map]
    rw [hmap, hlen] at ho
    have hjl : (l.map textS).map (·.data.toList) = textL l := by rw [textL_map, List.map_map]; rfl
    have hTl : (Lib.join (textL l) [32]).length + 2 ≤ 1000000000000 := by
      have := HT.out
      rw [textN, if_neg (by decide), if_pos rfl] at this
      simpa using this
    have v0 := hv.cell
    have HJ := Aside0.mk (join_any (l.map textS) ⟨#[32]⟩ v w.heap.size W ho (by rw [List.length_map]; exact Nat.le_trans HL.out (by decide)) (by rw [hjl]; show (Lib.join (textL l) [32]).length ≤ _; omega))
    rw [hjl] at HJ
    have KB := Aside0.mk kB
    have HK := Aside0.mk hK
    have HJL := Aside0.mk hTl
    have s1 : ¬ 9223372036854775807 < 1 + (Lib.join (textL l) [32]).length := by omega
    have s2 : ¬ 9223372036854775807 < 1 + (Lib.join (textL l) [32]).length + 1 := by omega
    clear hmap hlen hys' ho hv kB kz hK h0 h1 h2 hys hjl hTl
    gi_wp2_with (refine ⟨trivial, ?_⟩; gi_at_call 73; refine (callsIn_wide.2 HJ.out).mono ?_; rintro e W1 ⟨rfl, hB1⟩)
    have hK1 := (keeps_below (B := 0) hB1).same D _ (Nat.zero_le _) HK.out rfl
    refine ⟨by simp, .inl ⟨_, _, rfl, run_takeDeferred hK1, ?_⟩⟩
    refine ⟨_, results_tmp rfl _ _ _, ?_, (below_step KB.out hB1).trans (belowK_b (w := w) (Nat.le_refl _) W1 D _ (.deferred none) (Nat.le_trans HB0.out.size hD) hK1 rfl rfl)⟩
    have e : (⟨#[40]⟩ : ByteArray) ++ (⟨(Lib.join (textL l) [32]).toArray⟩ : ByteArray) ++ (⟨#[41]⟩ : ByteArray) = textS ⟨4, t, n, a, l⟩ := by
      rw [show (⟨#[40]⟩ : ByteArray) = ⟨([40] : List UInt8).toArray⟩ from rfl, show (⟨#[41]⟩ : ByteArray) = ⟨([41] : List UInt8).toArray⟩ from rfl, mk_append, mk_append, textS, textN, if_neg (by decide), if_pos rfl]
      rfl
    rw [← e]
    rfl
  case stop =>
    rintro D k pre W hD hpre h hK
    exact h.elim
theorem join_long (xs : List (List UInt8)) (c : UInt8) : (xs.map List.length).sum + xs.length ≤ (Lib.join xs [c]).length + 1 := by
  induction xs with
  | nil => simp
  | cons x r ih =>
    cases r with
    | nil => simp [Lib.join, List.intercalate]
    | cons y r =>
      have e : (Lib.join (x :: y :: r) [c]).length = x.length + 1 + (Lib.join (y :: r) [c]).length := by simp [Lib.join, List.intercalate, List.intersperse]; omega
      rw [e]
      simp only [List.map_cons, List.sum_cons, List.length_cons] at ih ⊢
      omega
theorem text_child (l : List NodeS) (y : NodeS) (h : y ∈ l) : (textN y).length ≤ (Lib.join (textL l) [32]).length ∧ l.length ≤ (Lib.join (textL l) [32]).length + 1 := by
  have h1 := join_long (textL l) 32
  rw [textL_map, List.length_map, List.map_map] at h1
  rw [textL_map]
  have h2 : (textN y).length ≤ (l.map (List.length ∘ textN)).sum := by
    obtain ⟨a, b, rfl⟩ := List.append_of_mem h
    simp
    omega
  have h3 : 1 ≤ l.length := List.length_pos_of_mem h
  omega
theorem quoteL_long (l : List UInt8) : l.length ≤ (quoteL l).length := by
  have h1 : ∀ c : UInt8, 1 ≤ (quote1 c).length := by
    intro c
    unfold quote1
    repeat' split
    all_goals simp
  have h2 : l.length ≤ (l.flatMap quote1).length := by
    induction l with
    | nil => simp
    | cons c r ih => have := h1 c; rw [List.flatMap_cons, List.length_append, List.length_cons]; omega
  unfold quoteL
  rw [List.length_cons, List.length_append]
  omega
set_option maxRecDepth 100000 in
set_option maxHeartbeats 4000000 in
theorem text_leaf (k : Int) (t : ByteArray) (n a : Int) (l : List NodeS) (A : Option Addr) (c : Nat) (w : World) (hT : (textN ⟨k, t, n, a, l⟩).length ≤ 1000000000000) (hk : ¬ k = 4) :
    Calls Tryd.prog 51 #[.agg #[.int .i64 k, .string t, .int .i64 n, .int .i64 a, .slice A l.length c]] w (TextPost w (textS ⟨k, t, n, a, l⟩)) := by
  by_cases h2 : k = 2
  · have e : Aside0 ((⟨(quoteL (bl t)).toArray⟩ : ByteArray) = textS ⟨k, t, n, a, l⟩) := ⟨by rw [textS, textN, if_pos h2]⟩
    have hq : t.size ≤ 1000000000000 := by
      rw [textN, if_pos h2] at hT
      have := quoteL_long (bl t)
      rw [bl_length] at this
      omega
    have HQ := Aside0.mk (quoteF t hq)
    have n2 := beq_lit h2
    have n4 := beq_no hk
    clear h2 hk hT hq
    go_enter Tryd.func51, Tryd.ntmps51
    go_wp2_with (go_at_call 19; refine (token_Quote.calls t _ _ HQ.out).mono ?_; rintro e1 W1 ⟨rfl, hB1⟩)
    go_ret
    exact ⟨by rw [← e.out]; rfl, below_step (below_alloc (Below.refl _ _) _) hB1⟩
  · have e : Aside0 (t = textS ⟨k, t, n, a, l⟩) := ⟨by rw [textS, textN, if_neg h2, if_neg hk, mk_bl]⟩
    have n2 := beq_no h2
    have n4 := beq_no hk
    clear h2 hk hT
    go_enter Tryd.func51, Tryd.ntmps51
    go_wp2
    go_ret
    exact ⟨by rw [← e.out]; rfl, below_alloc (Below.refl _ _) _⟩
theorem text_any : ∀ (N : Nat) (k : Int) (t : ByteArray) (n a : Int) (l : List NodeS) (A : Option Addr) (c : Nat) (w : World), SizeOf.sizeOf (⟨k, t, n, a, l⟩ : NodeS) ≤ N → (textN ⟨k, t, n, a, l⟩).length ≤ 1000000000000 → k39.C w A l.length l → l.length ≤ c →
    Calls Tryd.prog 51 #[.agg #[.int .i64 k, .string t, .int .i64 n, .int .i64 a, .slice A l.length c]] w (TextPost w (textS ⟨k, t, n, a, l⟩)) := by
  intro N
  induction N with
  | zero => intro k t n a l A c w h; simp [S39.mk.sizeOf_spec] at h
  | succ N ihN =>
    intro k t n a l A c w hN hT hC hc
    by_cases hk : k = 4
    · subst hk
      have hT' := hT
      rw [textN, if_neg (by decide), if_pos rfl] at hT'
      simp only [List.length_cons, List.length_append, List.length_nil] at hT'
      refine text_list t n a l A c w ?_ hT hC hc ?_
      · cases l with
        | nil => simp
        | cons y r => have := (text_child (y :: r) y (by simp)).2; omega
      rintro ⟨⟨⟨k', t', n', a', l'⟩, cs⟩, hm, hK⟩ W hB
      obtain ⟨A4, c4, e, h1, h2⟩ := node_cells (⟨(⟨k', t', n', a', l'⟩, cs), hm, hK⟩ : NodeAt w l)
      have hz := size_in ⟨4, t, n, a, l⟩ ⟨k', t', n', a', l'⟩ hm
      have hch := (text_child l _ hm).1
      dsimp only at e h1 h2 hz hch ⊢
      rw [e]
      exact ihN k' t' n' a' l' A4 c4 W (by omega) (by omega) (Kd.C_below h2 hB) h1
    · exact text_leaf k t n a l A c w hT hk
def sexp_text.f (a0_0 : Int) (a0_1 : ByteArray) (a0_2 : Int) (a0_3 : Int) (l0_4 : List NodeS) : Option ByteArray := if (textN ⟨a0_0, a0_1, a0_2, a0_3, l0_4⟩).length ≤ 1000000000000 then some (textS ⟨a0_0, a0_1, a0_2, a0_3, l0_4⟩) else none
theorem sexp_text.calls (a0_0 : Int) (a0_1 : ByteArray) (a0_2 : Int) (a0_3 : Int) (A0_4 : Option Addr) (c0_4 : Nat) (l0_4 : List (S39)) (r : ByteArray) (w : World) (hr0_4 : Kd.C k39 w A0_4 l0_4.length l0_4) (hc0_4 : l0_4.length ≤ c0_4) (h : sexp_text.f a0_0 a0_1 a0_2 a0_3 l0_4 = some r) :
    Calls Tryd.prog 51 #[.agg #[.int .i64 a0_0, .string a0_1, .int .i64 a0_2, .int .i64 a0_3, .slice A0_4 l0_4.length c0_4]] w fun e w' => e = .returned (.string r) ∧ Below w.heap.size w w' := by
  unfold sexp_text.f at h
  split at h
  · rename_i hs
    obtain rfl := Option.some.inj h
    exact text_any _ _ _ _ _ _ _ _ _ (Nat.le_refl _) hs hr0_4 hc0_4
  · cases h
end Go.Proofs.YtngcojabofkbjaaDoor.P
namespace Go.Proofs.YtngcojabofkbjaaDoor.P
open Go.RowKit Go.Proofs.YtngcojabofkbjaaDoorW.PrintWords Go.Proofs.YtngcojabofkbjaaDoorW.PrintLast Go.Proofs.YtngcojabofkbjaaDoorW.PrintMore
set_option linter.unusedVariables false
set_option linter.unusedSimpArgs false
def sexp_Print.f (a0_0 : Int) (a0_1 : ByteArray) (a0_2 : Int) (a0_3 : Int) (l0_4 : List (S39)) : Option (ByteArray) := (sexp_May.f a0_0 a0_1 a0_2 a0_3 l0_4).bind fun t322 => (if t322 = true then ((sexp_text.f a0_0 a0_1 a0_2 a0_3 l0_4).bind fun t323 => (some t323)) else (some (⟨#[]⟩ : ByteArray)))
set_option maxHeartbeats 8000000 in
set_option maxRecDepth 100000 in
theorem sexp_Print.calls (a0_0 : Int) (a0_1 : ByteArray) (a0_2 : Int) (a0_3 : Int) (A0_4 : Option Addr) (c0_4 : Nat) (l0_4 : List (S39)) (r : ByteArray) (w : World) (hG : GInv w) (hr0_4 : Kd.C k39 w A0_4 l0_4.length l0_4) (hc0_4 : l0_4.length ≤ c0_4) (h : sexp_Print.f a0_0 a0_1 a0_2 a0_3 l0_4 = some r) :
    Calls Tryd.prog 30 #[.agg #[.int .i64 a0_0, .string a0_1, .int .i64 a0_2, .int .i64 a0_3, .slice A0_4 l0_4.length c0_4]] w fun e w' => e = .returned (.string r) ∧ Below w.heap.size w w' := by
  have hu39 := Tryd.underlying39
  have HR0_4 := Aside0.mk hr0_4
  have HC0_4 := Aside0.mk hc0_4
  clear hr0_4 hc0_4
  have HB := Aside0.mk (Below.refl w.heap.size w)
  have H : ((sexp_May.f a0_0 a0_1 a0_2 a0_3 l0_4).bind fun t322 => (if t322 = true then ((sexp_text.f a0_0 a0_1 a0_2 a0_3 l0_4).bind fun t323 => (some t323)) else (some (⟨#[]⟩ : ByteArray)))) = some r := h
  clear h
  replace H := Option.bind_eq_some_iff.mp H
  obtain ⟨t322, A20, H⟩ := H
  replace H : (if t322 = true then ((sexp_text.f a0_0 a0_1 a0_2 a0_3 l0_4).bind fun t323 => (some t323)) else (some (⟨#[]⟩ : ByteArray))) = some r := H
  have A2 := Aside0.mk A20
  clear A20
  by_cases c3 : t322 = true
  · subst c3
    have H1 : ((sexp_text.f a0_0 a0_1 a0_2 a0_3 l0_4).bind fun t323 => (some t323)) = some r := by first | (rw [if_pos rfl] at H; exact H) | rfl
    clear H
    have H := H1
    clear H1
    replace H := Option.bind_eq_some_iff.mp H
    obtain ⟨t323, A40, H⟩ := H
    replace H : (some t323) = some r := H
    have A4 := Aside0.mk A40
    clear A40
    obtain rfl := Option.some.inj H
    go_enter Tryd.func30, Tryd.ntmps30
    go_wp2_with (first | ((with_reducible refine gate_dst (N := 1) rfl ?_); refine box_event ?hg (N := 1) ?hd (cs := #[.int .i64 a0_0, .string a0_1, .int .i64 a0_2, .int .i64 a0_3, .slice A0_4 l0_4.length c0_4]) (t := 39) ?hr ?_; (case hd => rfl); (case hg => rfl); (case hr => first | (go_simp; done) | (go_simp; rfl)); intro gb321 hg w5 hbox hb; have n0_ := Aside0.mk (below_step (by repeat (first | (with_reducible first | exact HB.out | apply below_alloc | apply pw_below_drewN | apply below_drew1) | exact HB.out)) hb); have n1_ := Aside0.mk (hbox); have n2_ := Aside0.mk ((by rw [hg]; exact (below_size (by repeat (first | (with_reducible first | exact HB.out | apply below_alloc | apply pw_below_drewN | apply below_drew1) | exact HB.out))) : w.heap.size ≤ gb321)); have n3_ := Aside0.mk ((by rw [hg]; exact (below_size (by repeat (first | (with_reducible first | exact HB.out | apply below_alloc | apply pw_below_drewN | apply below_drew1) | exact HB.out))) : w.heap.size ≤ gb321)); clear HB; have HB := n0_; have BK321 := n1_; have GW321 := n2_; have GE321 := n3_; clear n0_ n1_ n2_ n3_; clear hb hbox hg; have hcz6_0 : w5.cell? ⟨gb321, 0, none⟩ = some (.int .i64 a0_0) := (blk_cell BK321.out 0).trans rfl; have hcz6_1 : w5.cell? ⟨gb321, 1, none⟩ = some (.string a0_1) := (blk_cell BK321.out 1).trans rfl; have hcz6_2 : w5.cell? ⟨gb321, 2, none⟩ = some (.int .i64 a0_2) := (blk_cell BK321.out 2).trans rfl; have hcz6_3 : w5.cell? ⟨gb321, 3, none⟩ = some (.int .i64 a0_3) := (blk_cell BK321.out 3).trans rfl; have hcz6_4 : w5.cell? ⟨gb321, 4, none⟩ = some (.slice A0_4 l0_4.length c0_4) := (blk_cell BK321.out 4).trans rfl; have hfz6_0 := blk_frozen BK321.out 0; have hfz6_1 := blk_frozen BK321.out 1; have hfz6_2 := blk_frozen BK321.out 2; have hfz6_3 := blk_frozen BK321.out 3; have hfz6_4 := blk_frozen BK321.out 4) | ((with_reducible refine gate_callee (f := 25) rfl ?_); refine goesL_ (some 4) rfl rfl Tryd.func25 (by kernel_rfl) rfl #[.agg #[.int .i64 a0_0, .string a0_1, .int .i64 a0_2, .int .i64 a0_3, .slice A0_4 l0_4.length c0_4]] rfl (by (try simp only [List.map_toArray, List.map_cons, List.map_nil]); first | done | rfl | (simp only [List.length_drop, List.length_take]; rfl)) ?_; (with_reducible refine (sexp_May.calls a0_0 a0_1 a0_2 a0_3 _ _ l0_4 true _ ?side1 ?side2 ?side3 A2.out).mono ?_); (case side1 => exact hG.below (by repeat (first | (with_reducible first | exact HB.out | apply below_alloc | apply pw_below_drewN | apply below_drew1 | refine below_set ?_ GE321.out) | exact HB.out))); (case side2 => repeat (first | exact (Kd.C_below HR0_4.out HB.out) | (with_reducible refine Kd.C_alloc ?_ _) | (with_reducible refine Kd.C_drewN ?_ _) | (with_reducible refine Kd.C_drew ?_))); (case side3 => exact HC0_4.out); rintro e w7 ⟨rfl, hb⟩; refine ⟨_, rfl, ?_⟩; have n0_ := Aside0.mk (blk_below (g := gb321) (o := .cells #[.int .i64 a0_0, .string a0_1, .int .i64 a0_2, .int .i64 a0_3, .slice A0_4 l0_4.length c0_4] 39 (0, 0)) (by (with_reducible repeat (first | refine blk_drewN ?_ _ | refine blk_drew ?_ | refine blk_alloc ?_ _)); exact BK321.out) hb); have n1_ := Aside0.mk (below_step (by repeat (first | (with_reducible first | exact HB.out | apply below_alloc | apply pw_below_drewN | apply below_drew1 | refine below_set ?_ GE321.out) | exact HB.out)) hb); clear BK321; clear HB; have BK321 := n0_; have HB := n1_; clear n0_ n1_; (try clear hb); (try clear hb2); (try clear hk); (try clear hi); have hcz8_0 : w7.cell? ⟨gb321, 0, none⟩ = some (.int .i64 a0_0) := (blk_cell BK321.out 0).trans rfl; have hcz8_1 : w7.cell? ⟨gb321, 1, none⟩ = some (.string a0_1) := (blk_cell BK321.out 1).trans rfl; have hcz8_2 : w7.cell? ⟨gb321, 2, none⟩ = some (.int .i64 a0_2) := (blk_cell BK321.out 2).trans rfl; have hcz8_3 : w7.cell? ⟨gb321, 3, none⟩ = some (.int .i64 a0_3) := (blk_cell BK321.out 3).trans rfl; have hcz8_4 : w7.cell? ⟨gb321, 4, none⟩ = some (.slice A0_4 l0_4.length c0_4) := (blk_cell BK321.out 4).trans rfl; have hfz8_0 := blk_frozen BK321.out 0; have hfz8_1 := blk_frozen BK321.out 1; have hfz8_2 := blk_frozen BK321.out 2; have hfz8_3 := blk_frozen BK321.out 3; have hfz8_4 := blk_frozen BK321.out 4) | ((with_reducible refine gate_callee (f := 51) rfl ?_); refine goesL_ (some 7) rfl rfl Tryd.func51 (by kernel_rfl) rfl #[.agg #[.int .i64 a0_0, .string a0_1, .int .i64 a0_2, .int .i64 a0_3, .slice A0_4 l0_4.length c0_4]] rfl (by (try simp only [List.map_toArray, List.map_cons, List.map_nil]); first | done | rfl | (simp only [List.length_drop, List.length_take]; rfl)) ?_; (with_reducible refine (sexp_text.calls a0_0 a0_1 a0_2 a0_3 _ _ l0_4 t323 _ ?side1 ?side2 A4.out).mono ?_); (case side1 => repeat (first | exact (Kd.C_below HR0_4.out HB.out) | (with_reducible refine Kd.C_alloc ?_ _) | (with_reducible refine Kd.C_drewN ?_ _) | (with_reducible refine Kd.C_drew ?_))); (case side2 => exact HC0_4.out); rintro e w9 ⟨rfl, hb⟩; refine ⟨_, rfl, ?_⟩; have n0_ := Aside0.mk (blk_below (g := gb321) (o := .cells #[.int .i64 a0_0, .string a0_1, .int .i64 a0_2, .int .i64 a0_3, .slice A0_4 l0_4.length c0_4] 39 (0, 0)) (by (with_reducible repeat (first | refine blk_drewN ?_ _ | refine blk_drew ?_ | refine blk_alloc ?_ _)); exact BK321.out) hb); have n1_ := Aside0.mk (below_step (by repeat (first | (with_reducible first | exact HB.out | apply below_alloc | apply pw_below_drewN | apply below_drew1 | refine below_set ?_ GE321.out) | exact HB.out)) hb); clear BK321; clear HB; have BK321 := n0_; have HB := n1_; clear n0_ n1_; (try clear hb); (try clear hb2); (try clear hk); (try clear hi)))
    go_ret
    exact ⟨by first | rfl | (simp [] <;> rfl) | (simp [*] <;> rfl), by repeat (first | (with_reducible first | exact HB.out | apply below_alloc | apply pw_below_drewN | apply below_drew1 | refine below_set ?_ GE321.out) | exact HB.out)⟩
  · replace c3 := Bool.eq_false_iff.mpr c3
    subst c3
    have H1 : (some (⟨#[]⟩ : ByteArray)) = some r := by first | (rw [if_neg (show ¬ (false = true) by decide)] at H; exact H) | rfl
    clear H
    have H := H1
    clear H1
    obtain rfl := Option.some.inj H
    go_enter Tryd.func30, Tryd.ntmps30
    go_wp2_with (first | ((with_reducible refine gate_dst (N := 1) rfl ?_); refine box_event ?hg (N := 1) ?hd (cs := #[.int .i64 a0_0, .string a0_1, .int .i64 a0_2, .int .i64 a0_3, .slice A0_4 l0_4.length c0_4]) (t := 39) ?hr ?_; (case hd => rfl); (case hg => rfl); (case hr => first | (go_simp; done) | (go_simp; rfl)); intro gb321 hg w10 hbox hb; have n0_ := Aside0.mk (below_step (by repeat (first | (with_reducible first | exact HB.out | apply below_alloc | apply pw_below_drewN | apply below_drew1) | exact HB.out)) hb); have n1_ := Aside0.mk (hbox); have n2_ := Aside0.mk ((by rw [hg]; exact (below_size (by repeat (first | (with_reducible first | exact HB.out | apply below_alloc | apply pw_below_drewN | apply below_drew1) | exact HB.out))) : w.heap.size ≤ gb321)); have n3_ := Aside0.mk ((by rw [hg]; exact (below_size (by repeat (first | (with_reducible first | exact HB.out | apply below_alloc | apply pw_below_drewN | apply below_drew1) | exact HB.out))) : w.heap.size ≤ gb321)); clear HB; have HB := n0_; have BK321 := n1_; have GW321 := n2_; have GE321 := n3_; clear n0_ n1_ n2_ n3_; clear hb hbox hg; have hcz11_0 : w10.cell? ⟨gb321, 0, none⟩ = some (.int .i64 a0_0) := (blk_cell BK321.out 0).trans rfl; have hcz11_1 : w10.cell? ⟨gb321, 1, none⟩ = some (.string a0_1) := (blk_cell BK321.out 1).trans rfl; have hcz11_2 : w10.cell? ⟨gb321, 2, none⟩ = some (.int .i64 a0_2) := (blk_cell BK321.out 2).trans rfl; have hcz11_3 : w10.cell? ⟨gb321, 3, none⟩ = some (.int .i64 a0_3) := (blk_cell BK321.out 3).trans rfl; have hcz11_4 : w10.cell? ⟨gb321, 4, none⟩ = some (.slice A0_4 l0_4.length c0_4) := (blk_cell BK321.out 4).trans rfl; have hfz11_0 := blk_frozen BK321.out 0; have hfz11_1 := blk_frozen BK321.out 1; have hfz11_2 := blk_frozen BK321.out 2; have hfz11_3 := blk_frozen BK321.out 3; have hfz11_4 := blk_frozen BK321.out 4) | ((with_reducible refine gate_callee (f := 25) rfl ?_); refine goesL_ (some 4) rfl rfl Tryd.func25 (by kernel_rfl) rfl #[.agg #[.int .i64 a0_0, .string a0_1, .int .i64 a0_2, .int .i64 a0_3, .slice A0_4 l0_4.length c0_4]] rfl (by (try simp only [List.map_toArray, List.map_cons, List.map_nil]); first | done | rfl | (simp only [List.length_drop, List.length_take]; rfl)) ?_; (with_reducible refine (sexp_May.calls a0_0 a0_1 a0_2 a0_3 _ _ l0_4 false _ ?side1 ?side2 ?side3 A2.out).mono ?_); (case side1 => exact hG.below (by repeat (first | (with_reducible first | exact HB.out | apply below_alloc | apply pw_below_drewN | apply below_drew1 | refine below_set ?_ GE321.out) | exact HB.out))); (case side2 => repeat (first | exact (Kd.C_below HR0_4.out HB.out) | (with_reducible refine Kd.C_alloc ?_ _) | (with_reducible refine Kd.C_drewN ?_ _) | (with_reducible refine Kd.C_drew ?_))); (case side3 => exact HC0_4.out); rintro e w12 ⟨rfl, hb⟩; refine ⟨_, rfl, ?_⟩; have n0_ := Aside0.mk (blk_below (g := gb321) (o := .cells #[.int .i64 a0_0, .string a0_1, .int .i64 a0_2, .int .i64 a0_3, .slice A0_4 l0_4.length c0_4] 39 (0, 0)) (by (with_reducible repeat (first | refine blk_drewN ?_ _ | refine blk_drew ?_ | refine blk_alloc ?_ _)); exact BK321.out) hb); have n1_ := Aside0.mk (below_step (by repeat (first | (with_reducible first | exact HB.out | apply below_alloc | apply pw_below_drewN | apply below_drew1 | refine below_set ?_ GE321.out) | exact HB.out)) hb); clear BK321; clear HB; have BK321 := n0_; have HB := n1_; clear n0_ n1_; (try clear hb); (try clear hb2); (try clear hk); (try clear hi)))
    go_ret
    exact ⟨by first | rfl | (simp [] <;> rfl) | (simp [*] <;> rfl), by repeat (first | (with_reducible first | exact HB.out | apply below_alloc | apply pw_below_drewN | apply below_drew1 | refine below_set ?_ GE321.out) | exact HB.out)⟩
end Go.Proofs.YtngcojabofkbjaaDoor.P
namespace Go.Proofs.YtngcojabofkbjaaDoor.P
open Go.RowKit Go.Proofs.YtngcojabofkbjaaDoorW.PrintWords Go.Proofs.YtngcojabofkbjaaDoorW.PrintLast Go.Proofs.YtngcojabofkbjaaDoorW.PrintMore
set_option linter.unusedVariables false
set_option linter.unusedSimpArgs false
def sexp_does.j0 : Nat → Bool → Int → ByteArray → Int → Int → Option (Int)
  | 0, _, _, _, _, _ => none
  | k + 1, x3, x312000, x312001, x312002, x312003 => if x3 = true then (some 0) else (if x312001.toList = ([40] : List UInt8) then (some 1) else (if x312001.toList = ([41] : List UInt8) then (some 2) else (some 3)))
def sexp_does.f (k : Nat) (a0_0 : Int) (a0_1 : ByteArray) (a0_2 : Int) (a0_3 : Int) : Option (Int) := if a0_0 = 3 then (sexp_does.j0 k (a0_1.toList == ([46] : List UInt8)) a0_0 a0_1 a0_2 a0_3) else (sexp_does.j0 k (a0_0 != 3) a0_0 a0_1 a0_2 a0_3)
set_option maxHeartbeats 8000000 in
set_option maxRecDepth 100000 in
theorem sexp_does.calls (k : Nat) (a0_0 : Int) (a0_1 : ByteArray) (a0_2 : Int) (a0_3 : Int) (r : Int) (w : World) (h : sexp_does.f k a0_0 a0_1 a0_2 a0_3 = some r) :
    Calls Tryd.prog 45 #[.agg #[.int .i64 a0_0, .string a0_1, .int .i64 a0_2, .int .i64 a0_3]] w fun e w' => e = .returned (.int .i64 r) ∧ Below w.heap.size w w' := by
  have hu29 := Tryd.underlying29
  have HB := Aside0.mk (Below.refl w.heap.size w)
  have H : (if a0_0 = 3 then (sexp_does.j0 k (a0_1.toList == ([46] : List UInt8)) a0_0 a0_1 a0_2 a0_3) else (sexp_does.j0 k (a0_0 != 3) a0_0 a0_1 a0_2 a0_3)) = some r := h
  clear h
  have HC2 := Aside0.mk H
  clear H
  go_enter Tryd.func45, Tryd.ntmps45
  go_upto_if 3 with (first | ((with_reducible refine gate_dst (N := 1) rfl ?_); refine box_event ?hg (N := 1) ?hd (cs := #[.int .i64 a0_0, .string a0_1, .int .i64 a0_2, .int .i64 a0_3]) (t := 29) ?hr ?_; (case hd => rfl); (case hg => rfl); (case hr => first | (go_simp; done) | (go_simp; rfl)); intro gb311 hg w3 hbox hb; have n0_ := Aside0.mk (below_step (by repeat (first | (with_reducible first | exact HB.out | apply below_alloc | apply pw_below_drewN | apply below_drew1) | exact HB.out)) hb); have n1_ := Aside0.mk (hbox); have n2_ := Aside0.mk ((by rw [hg]; exact (below_size (by repeat (first | (with_reducible first | exact HB.out | apply below_alloc | apply pw_below_drewN | apply below_drew1) | exact HB.out))) : w.heap.size ≤ gb311)); have n3_ := Aside0.mk ((by rw [hg]; exact (below_size (by repeat (first | (with_reducible first | exact HB.out | apply below_alloc | apply pw_below_drewN | apply below_drew1) | exact HB.out))) : w.heap.size ≤ gb311)); clear HB; have HB := n0_; have BK311 := n1_; have GW311 := n2_; have GE311 := n3_; clear n0_ n1_ n2_ n3_; clear hb hbox hg; have hcz4_0 : w3.cell? ⟨gb311, 0, none⟩ = some (.int .i64 a0_0) := (blk_cell BK311.out 0).trans rfl; have hcz4_1 : w3.cell? ⟨gb311, 1, none⟩ = some (.string a0_1) := (blk_cell BK311.out 1).trans rfl; have hcz4_2 : w3.cell? ⟨gb311, 2, none⟩ = some (.int .i64 a0_2) := (blk_cell BK311.out 2).trans rfl; have hcz4_3 : w3.cell? ⟨gb311, 3, none⟩ = some (.int .i64 a0_3) := (blk_cell BK311.out 3).trans rfl; have hfz4_0 := blk_frozen BK311.out 0; have hfz4_1 := blk_frozen BK311.out 1; have hfz4_2 := blk_frozen BK311.out 2; have hfz4_3 := blk_frozen BK311.out 3))
  (try simp only [Act.put, List.setIfInBounds_toArray, List.set_cons_zero, List.set_cons_succ])
  go_cut [3] (fun v3 wc => ∃ (kq : Nat) (x3_1 : Bool), v3 = .bool x3_1 ∧ Aside0 (sexp_does.j0 kq x3_1 a0_0 a0_1 a0_2 a0_3 = some r) ∧ Aside0 (kq ≤ k) ∧ Aside0 (wc.heap[gb311]? = some (.cells #[.int .i64 a0_0, .string a0_1, .int .i64 a0_2, .int .i64 a0_3] 29 (0, 0))) ∧ Aside0 (Below w.heap.size w wc))
  case first =>
    have H := HC2.out
    clear HC2
    by_cases c5 : a0_0 = 3
    · rw [if_pos c5] at H
      have c5b0 : (a0_0 == 3) = true := beq_iff_eq.mpr c5
      have c5b1 : (a0_0 != 3) = false := bne_eq_false_iff_eq.mpr c5
      clear c5
      (first | rw [c5b0] | (simp only []; rw [c5b0]) | skip)
      have H' := Aside0.mk H
      clear H
      have hcz6_0 : w3.cell? ⟨gb311, 0, none⟩ = some (.int .i64 a0_0) := (blk_cell BK311.out 0).trans rfl
      have hcz6_1 : w3.cell? ⟨gb311, 1, none⟩ = some (.string a0_1) := (blk_cell BK311.out 1).trans rfl
      have hcz6_2 : w3.cell? ⟨gb311, 2, none⟩ = some (.int .i64 a0_2) := (blk_cell BK311.out 2).trans rfl
      have hcz6_3 : w3.cell? ⟨gb311, 3, none⟩ = some (.int .i64 a0_3) := (blk_cell BK311.out 3).trans rfl
      have hfz6_0 := blk_frozen BK311.out 0
      have hfz6_1 := blk_frozen BK311.out 1
      have hfz6_2 := blk_frozen BK311.out 2
      have hfz6_3 := blk_frozen BK311.out 3
      go_wp2
      go_meet
      case rel => exact ⟨_, ((a0_1.toList == ([46] : List UInt8))), (by first | rfl | (simp; done) | (simp [*]; done)), H', ⟨by first | omega | exact Nat.le_refl _⟩, ⟨by (with_reducible repeat (first | refine blk_drewN ?_ _ | refine blk_drew ?_ | refine blk_alloc ?_ _)); exact BK311.out⟩, ⟨by repeat (first | (with_reducible first | exact HB.out | apply below_alloc | apply pw_below_drewN | apply below_drew1 | refine below_set ?_ GE311.out) | exact HB.out)⟩⟩
    · rw [if_neg c5] at H
      have c5b0 : (a0_0 == 3) = false := beq_eq_false_iff_ne.mpr c5
      have c5b1 : (a0_0 != 3) = true := bne_iff_ne.mpr c5
      (first | rw [c5b0] | (simp only []; rw [c5b0]) | skip)
      have H' := Aside0.mk H
      clear H
      go_wp2
      go_meet
      case rel => exact ⟨_, ((a0_0 != 3)), (by first | rfl | (simp; done) | (simp [*]; done)), H', ⟨by first | omega | exact Nat.le_refl _⟩, ⟨by (with_reducible repeat (first | refine blk_drewN ?_ _ | refine blk_drew ?_ | refine blk_alloc ?_ _)); exact BK311.out⟩, ⟨by repeat (first | (with_reducible first | exact HB.out | apply below_alloc | apply pw_below_drewN | apply below_drew1 | refine below_set ?_ GE311.out) | exact HB.out)⟩⟩
  case rest =>
    clear HC2
    try clear p2
    try clear c4
    try clear c5
    try clear c5b0
    try clear c5b1
    try clear hcz4_0
    try clear hcz4_1
    try clear hcz4_2
    try clear hcz4_3
    try clear hcz6_0
    try clear hcz6_1
    try clear hcz6_2
    try clear hcz6_3
    try clear hfz4_0
    try clear hfz4_1
    try clear hfz4_2
    try clear hfz4_3
    try clear hfz6_0
    try clear hfz6_1
    try clear hfz6_2
    try clear hfz6_3
    obtain ⟨kq, x3_1, rfl, HA, HJ1, BK311, HB⟩ := hcut
    cases kq with
    | zero => exact absurd HA.out (by simp [sexp_does.j0])
    | succ kj1 =>
      have H := HA.out
      clear HA
      simp only [sexp_does.j0] at H
      by_cases c7 : x3_1 = true
      · subst c7
        have H1 : (some 0) = some r := by first | (rw [if_pos rfl] at H; exact H) | rfl
        clear H
        have H := H1
        clear H1
        obtain rfl := Option.some.inj H
        go_wp2
        go_ret
        exact ⟨by first | rfl | (simp [] <;> rfl) | (simp [*] <;> rfl), by repeat (first | (with_reducible first | exact HB.out | apply below_alloc | apply pw_below_drewN | apply below_drew1 | refine below_set ?_ GE311.out) | exact HB.out)⟩
      · replace c7 := Bool.eq_false_iff.mpr c7
        subst c7
        have H1 : (if a0_1.toList = ([40] : List UInt8) then (some 1) else (if a0_1.toList = ([41] : List UInt8) then (some 2) else (some 3))) = some r := by first | (rw [if_neg (show ¬ (false = true) by decide)] at H; exact H) | rfl
        clear H
        have H := H1
        clear H1
        by_cases c8 : a0_1.toList = ([40] : List UInt8)
        · rw [if_pos c8] at H
          have c8b0 : (a0_1.toList == ([40] : List UInt8)) = true := beq_iff_eq.mpr c8
          have c8b1 : (a0_1.toList != ([40] : List UInt8)) = false := bne_eq_false_iff_eq.mpr c8
          clear c8
          obtain rfl := Option.some.inj H
          have hcz9_0 : wc.cell? ⟨gb311, 0, none⟩ = some (.int .i64 a0_0) := (blk_cell BK311.out 0).trans rfl
          have hcz9_1 : wc.cell? ⟨gb311, 1, none⟩ = some (.string a0_1) := (blk_cell BK311.out 1).trans rfl
          have hcz9_2 : wc.cell? ⟨gb311, 2, none⟩ = some (.int .i64 a0_2) := (blk_cell BK311.out 2).trans rfl
          have hcz9_3 : wc.cell? ⟨gb311, 3, none⟩ = some (.int .i64 a0_3) := (blk_cell BK311.out 3).trans rfl
          have hfz9_0 := blk_frozen BK311.out 0
          have hfz9_1 := blk_frozen BK311.out 1
          have hfz9_2 := blk_frozen BK311.out 2
          have hfz9_3 := blk_frozen BK311.out 3
          go_wp2
          go_ret
          exact ⟨by first | rfl | (simp [] <;> rfl) | (simp [*] <;> rfl), by repeat (first | (with_reducible first | exact HB.out | apply below_alloc | apply pw_below_drewN | apply below_drew1 | refine below_set ?_ GE311.out) | exact HB.out)⟩
        · rw [if_neg c8] at H
          have c8b0 : (a0_1.toList == ([40] : List UInt8)) = false := beq_eq_false_iff_ne.mpr c8
          have c8b1 : (a0_1.toList != ([40] : List UInt8)) = true := bne_iff_ne.mpr c8
          by_cases c10 : a0_1.toList = ([41] : List UInt8)
          · rw [if_pos c10] at H
            have c10b0 : (a0_1.toList == ([41] : List UInt8)) = true := beq_iff_eq.mpr c10
            have c10b1 : (a0_1.toList != ([41] : List UInt8)) = false := bne_eq_false_iff_eq.mpr c10
            clear c10
            obtain rfl := Option.some.inj H
            have hcz11_0 : wc.cell? ⟨gb311, 0, none⟩ = some (.int .i64 a0_0) := (blk_cell BK311.out 0).trans rfl
            have hcz11_1 : wc.cell? ⟨gb311, 1, none⟩ = some (.string a0_1) := (blk_cell BK311.out 1).trans rfl
            have hcz11_2 : wc.cell? ⟨gb311, 2, none⟩ = some (.int .i64 a0_2) := (blk_cell BK311.out 2).trans rfl
            have hcz11_3 : wc.cell? ⟨gb311, 3, none⟩ = some (.int .i64 a0_3) := (blk_cell BK311.out 3).trans rfl
            have hfz11_0 := blk_frozen BK311.out 0
            have hfz11_1 := blk_frozen BK311.out 1
            have hfz11_2 := blk_frozen BK311.out 2
            have hfz11_3 := blk_frozen BK311.out 3
            go_wp2
            go_ret
            exact ⟨by first | rfl | (simp [] <;> rfl) | (simp [*] <;> rfl), by repeat (first | (with_reducible first | exact HB.out | apply below_alloc | apply pw_below_drewN | apply below_drew1 | refine below_set ?_ GE311.out) | exact HB.out)⟩
          · rw [if_neg c10] at H
            have c10b0 : (a0_1.toList == ([41] : List UInt8)) = false := beq_eq_false_iff_ne.mpr c10
            have c10b1 : (a0_1.toList != ([41] : List UInt8)) = true := bne_iff_ne.mpr c10
            obtain rfl := Option.some.inj H
            have hcz12_0 : wc.cell? ⟨gb311, 0, none⟩ = some (.int .i64 a0_0) := (blk_cell BK311.out 0).trans rfl
            have hcz12_1 : wc.cell? ⟨gb311, 1, none⟩ = some (.string a0_1) := (blk_cell BK311.out 1).trans rfl
            have hcz12_2 : wc.cell? ⟨gb311, 2, none⟩ = some (.int .i64 a0_2) := (blk_cell BK311.out 2).trans rfl
            have hcz12_3 : wc.cell? ⟨gb311, 3, none⟩ = some (.int .i64 a0_3) := (blk_cell BK311.out 3).trans rfl
            have hfz12_0 := blk_frozen BK311.out 0
            have hfz12_1 := blk_frozen BK311.out 1
            have hfz12_2 := blk_frozen BK311.out 2
            have hfz12_3 := blk_frozen BK311.out 3
            go_wp2
            go_ret
            exact ⟨by first | rfl | (simp [] <;> rfl) | (simp [*] <;> rfl), by repeat (first | (with_reducible first | exact HB.out | apply below_alloc | apply pw_below_drewN | apply below_drew1 | refine below_set ?_ GE311.out) | exact HB.out)⟩
end Go.Proofs.YtngcojabofkbjaaDoor.P
namespace Go.Proofs.YtngcojabofkbjaaDoor.P
open Go.RowKit Go.Proofs.YtngcojabofkbjaaDoorW.PrintWords Go.Proofs.YtngcojabofkbjaaDoorW.PrintLast Go.Proofs.YtngcojabofkbjaaDoorW.PrintMore
set_option linter.unusedVariables false
set_option linter.unusedSimpArgs false
def doesI (t : TokS) : Int := if t.f0 ≠ 3 ∨ t.f1.toList = [46] then 0 else if t.f1.toList = [40] then 1 else if t.f1.toList = [41] then 2 else 3
theorem does_j0 (b : Bool) (t : TokS) : sexp_does.j0 1 b t.f0 t.f1 t.f2 t.f3 = some (if b = true then 0 else if t.f1.toList = [40] then 1 else if t.f1.toList = [41] then 2 else 3) := by
  show (if b = true then some 0 else _) = _
  repeat' split
  all_goals rfl
theorem does_eq (t : TokS) : sexp_does.f 1 t.f0 t.f1 t.f2 t.f3 = some (doesI t) := by
  unfold sexp_does.f doesI
  rw [does_j0, does_j0]
  by_cases h : t.f0 = 3
  · rw [if_pos h]
    by_cases h2 : t.f1.toList = [46]
    · rw [if_pos (beq_iff_eq.2 h2), if_pos (show t.f0 ≠ 3 ∨ t.f1.toList = [46] from .inr h2)]
    · rw [if_neg (show ¬ (t.f1.toList == [46]) = true by rw [beq_eq_false_iff_ne.2 h2]; decide), if_neg (show ¬ (t.f0 ≠ 3 ∨ t.f1.toList = [46]) by rintro (h3 | h3); exact h3 h; exact h2 h3)]
  · rw [if_neg h, if_pos (bne_iff_ne.2 h), if_pos (show t.f0 ≠ 3 ∨ t.f1.toList = [46] from .inl h)]
abbrev zN : NodeS := z39
def topN (st : List NodeS) : NodeS := st.getD (st.length - 1) zN
def addTop (st : List NodeS) (x : NodeS) : List NodeS := st.set (st.length - 1) ⟨(topN st).f0, (topN st).f1, (topN st).f2, (topN st).f3, (topN st).f4 ++ [x]⟩
def parseL : List TokS → List NodeS → List NodeS ⊕ (Int × Int)
  | [], st => .inl st
  | t :: ts, st =>
    if st.length = 1 ∧ (topN st).f4.length = 1 then .inr (t.f3, 4) else
    if doesI t = 3 then .inr (t.f3, 4) else
    if doesI t = 2 ∧ st.length = 1 then .inr (t.f3, 4) else
    if doesI t = 1 ∧ st.length > 16 then .inr (t.f3, 2) else
    if doesI t = 1 then parseL ts (st ++ [⟨4, ⟨#[]⟩, 0, t.f3, []⟩]) else
    if doesI t = 2 then parseL ts (addTop (st.take (st.length - 1)) (topN st)) else
    parseL ts (addTop st ⟨t.f0, t.f1, t.f2, t.f3, []⟩)
def parseEnd (n : Int) : List NodeS ⊕ (Int × Int) → NodeS × Int × Int
  | .inr (p, e) => (zN, p, e)
  | .inl st => if st.length > 1 then (zN, n, 4) else if (st.getD 0 zN).f4.length = 0 then (zN, n, 4) else ((st.getD 0 zN).f4.getD 0 zN, n, 0)
def parseN (s : ByteArray) : NodeS × Int × Int := if (allF s).2.2 ≠ 0 then (zN, (allF s).2.1, (allF s).2.2) else parseEnd s.size (parseL (allF s).1 [zN])
def stOk (i : Nat) (st : List NodeS) : Prop := 0 < st.length ∧ st.length ≤ i + 1 ∧ ∀ x ∈ st, x.f4.length ≤ i
theorem topN_mem (st : List NodeS) (h : 0 < st.length) : topN st ∈ st := by
  unfold topN
  rw [List.getD_eq_getElem?_getD, List.getElem?_eq_getElem (by omega)]
  exact List.getElem_mem _
theorem addTop_len (st : List NodeS) (x : NodeS) : (addTop st x).length = st.length := by unfold addTop; simp
theorem stOk_add (i : Nat) (st : List NodeS) (x : NodeS) (h : stOk i st) : stOk (i + 1) (addTop st x) := by
  obtain ⟨h1, h2, h3⟩ := h
  refine ⟨by rw [addTop_len]; exact h1, by rw [addTop_len]; omega, fun y hy => ?_⟩
  unfold addTop at hy
  rcases List.mem_or_eq_of_mem_set hy with hy | hy
  · have := h3 y hy; omega
  · rw [hy]
    have := h3 _ (topN_mem st h1)
    simp
    omega
theorem stOk_push (i : Nat) (st : List NodeS) (x : NodeS) (h : stOk i st) (hx : x.f4 = []) : stOk (i + 1) (st ++ [x]) := by
  obtain ⟨h1, h2, h3⟩ := h
  refine ⟨by simp, by simp; omega, fun y hy => ?_⟩
  rcases List.mem_append.1 hy with hy | hy
  · have := h3 y hy; omega
  · rw [List.mem_singleton.1 hy, hx]; simp
theorem stOk_pop (i : Nat) (st : List NodeS) (x : NodeS) (h : stOk i st) (h2 : 1 < st.length) : stOk (i + 1) (addTop (st.take (st.length - 1)) x) :=
  stOk_add i _ x ⟨by rw [List.length_take]; omega, by have := h.2.1; rw [List.length_take]; omega, fun y hy => h.2.2 y (List.mem_of_mem_take hy)⟩
theorem H_take {α : Type} {d : Kd α} {e n m cap : Nat} {w : World} {base : Nat} {ok oki : Nat → Prop} {A : Option Addr} {xs : List α} {i : Int} {c : List Value} (h : Kd.H d e w base ok (.slice A n cap) xs i oki c) (hm : m ≤ xs.length) (hi : m ≤ i.toNat) :
    Kd.S d e w base (fun k => ok k ∧ ¬ oki k) (.slice A m cap) (xs.take m) := by
  obtain ⟨_, f, h⟩ := h
  refine ⟨f, ?_⟩
  have h2 := Kd.R_take h (m := m) (by rw [List.length_zipIdx]; exact hm)
  have he : (xs.take m).zipIdx = xs.zipIdx.take m := by
    apply List.ext_getElem?
    intro j
    simp only [List.getElem?_zipIdx, List.getElem?_take]
    split <;> simp [List.getElem?_zipIdx]
  rw [he]
  refine ⟨h2.1, ?_⟩
  obtain ⟨inner, ho, hr⟩ := h2.2
  refine ⟨inner, ho, hr.1, fun j q hj => ?_⟩
  have hM := hr.2 j q hj
  have hq : q.2 ≠ i.toNat := by
    rw [List.getElem?_take] at hj
    split at hj
    · rw [List.getElem?_zipIdx] at hj
      obtain ⟨x, _, rfl⟩ := Option.map_eq_some_iff.1 hj
      simp only
      omega
    · cases hj
  exact hM.2 hq
end Go.Proofs.YtngcojabofkbjaaDoor.P
namespace Go.Proofs.YtngcojabofkbjaaDoor.P
open Go.RowKit Go.Proofs.YtngcojabofkbjaaDoorW.PrintWords Go.Proofs.YtngcojabofkbjaaDoorW.PrintLast Go.Proofs.YtngcojabofkbjaaDoorW.PrintMore
set_option linter.unusedVariables false
set_option linter.unusedSimpArgs false
theorem setCell_comm (w : World) (p q : Addr) (h : p.block ≠ q.block) (u v : Value) : (w.setCell p u).setCell q v = (w.setCell q v).setCell p u := by
  have hh : ∀ (a b : World), a.heap = b.heap → { a with heap := #[] } = { b with heap := #[] } → a = b := by
    intro a b h1 h2
    cases a
    cases b
    simp only [World.mk.injEq] at *
    simp_all
  refine hh _ _ ?_ rfl
  apply Array.ext_getElem?
  intro k
  simp only [World.setCell, Array.getElem?_modify]
  by_cases h1 : p.block = k
  · subst h1
    rw [if_neg (Ne.symm h), if_pos rfl, if_pos rfl, if_neg (Ne.symm h)]
  · by_cases h2 : q.block = k
    · subst h2
      rw [if_pos rfl, if_neg h, if_neg h, if_pos rfl]
    · rw [if_neg h2, if_neg h1, if_neg h1, if_neg h2]
theorem setCells_setCell {g : Nat} {p : Addr} (h : g ≠ p.block) (u : Value) : ∀ (vs : List Value) (o : Nat) (w : World), (w.setCells g o vs).setCell p u = (w.setCell p u).setCells g o vs
  | [], _, _ => rfl
  | v :: r, o, w => by
    rw [World.setCells, World.setCells, setCells_setCell h u r (o + 1), setCell_comm w ⟨g, o, none⟩ p h v u]
theorem store_row {P : Program} {ops : Array Oper} {o : Oper} {a : Act} {Q : Exit → Act → World → Prop} {K : Act → World → Prop} {W : World} (hw : Region.wanted o (yielded ops a.tmps) = true) (hN : o.dst = none) (t : TypeId) (p x : Operand) (ho : o.op = .store t p x)
    {g o' : Nat} {e : TypeId} {cur : Array Value} {u : Value} {seg : List Value} (haddr : a.eval p = .pointer (some ⟨g, o', none⟩)) (hx : a.eval x = u) (hu : u.cells.toList = seg) (ht : (P.info? t).map (·.size) = some seg.length)
    (hh : W.heap[g]? = some (.cells cur e (0, 0))) (hfit : o' + seg.length ≤ cur.size) (h1 : ∀ q ∈ seg, q.oneCell' = true) (h : K a (W.setCells g o' seg)) :
    if Region.wanted o (yielded ops a.tmps) = true then Oper.wp P o a W K Q else K (a.put none undef) W := by
  rw [if_pos hw]
  have hrun := run_store_run (P := P) t u seg hh hu ht hfit h1
  unfold Oper.wp execOp
  simp only [ho, haddr, hx, Sem.run_bind, Sem.run_pure, Result.andThen_ok, hrun]
  show K (a.put o.dst undef) _
  rw [hN]
  exact h
theorem top_put {w1 : World} {B g n cap h c1 m : Nat} {okw okp : Nat → Prop} {st : List NodeS} {x : NodeS} {cs : List Value} {v4 : Value}
    (HH : Kd.H k39 39 w1 B (fun _ => True) (.slice (some ⟨g, 0, none⟩) n cap) st (m : Int) okw [.int .i64 (topN st).f0, .string (topN st).f1, .int .i64 (topN st).f2, .int .i64 (topN st).f3, v4])
    (HR : Kd.R k39 39 w1 B okw (.slice (some ⟨h, 0, none⟩) ((topN st).f4.length + 1) c1) ((topN st).f4 ++ [zN]))
    (HM : k39.M w1 B okp x cs) (hcs : cs.length = 5) (hokp : ∀ k, okp k → okw k ∧ k ≠ h) (hmn : st.length = m + 1) (hn : n = m + 1) :
    Kd.S k39 39 ((w1.setCells h ((topN st).f4.length * 5) cs).setCells g (m * 5 + 4) [.slice (some ⟨h, 0, none⟩) ((topN st).f4.length + 1) c1]) B (fun _ => True) (.slice (some ⟨g, 0, none⟩) n cap) (addTop st x) := by
  obtain ⟨c, hcl, _, hcc⟩ := Kd.R_getA HR zN ((topN st).f4.length : Int) (by omega) (by omega)
  rw [Int.toNat_natCast] at hcc
  have hR2 := Kd.R_seg HR ((topN st).f4.length : Int) (by omega) (by omega) (c := c) (seg := cs) (j := 0) (x' := x) (okp := okp) hcl
    (fun j u hu => by have := hcc j u hu; rw [add_plain] at this; rw [Int.toNat_natCast]; simpa using this) (by rw [hcs]; decide)
    (by rw [List.take_zero, List.nil_append, Nat.zero_add, List.drop_of_length_le (by rw [hcl, hcs]; decide), List.append_nil]; exact HM) hokp
  rw [Int.toNat_natCast, Nat.add_zero, show ((topN st).f4 ++ [zN]).set (topN st).f4.length x = (topN st).f4 ++ [x] from by simp] at hR2
  obtain ⟨HR2, hg2⟩ := hR2
  have hng : ¬ okw g := by
    obtain ⟨_, f, hR⟩ := HH
    exact (hR.1 g (by simp [Value.ownBlock])).2
  have H2 := Kd.H_grown HH hg2 (fun k hk => by injection hk with hk; subst hk; exact HR.1 _ (by simp [Value.ownBlock]))
  have H3 := Kd.H_seg H2 (by omega) (by omega) (seg := [.slice (some ⟨h, 0, none⟩) ((topN st).f4.length + 1) c1]) (j := 4) (Nat.le_refl 5) (by intro q hq; rw [List.mem_singleton.1 hq]; rfl)
  rw [Int.toNat_natCast] at H3
  obtain ⟨H3, hg3⟩ := H3
  have HR3 := Kd.R_grown HR2 hg3 (fun k hk he => by injection he with he; subst he; exact hng hk)
  have hM := k39_mkM _ B okw (⟨(topN st).f0, (topN st).f1, (topN st).f2, (topN st).f3, (topN st).f4 ++ [x]⟩ : NodeS) (v4 := .slice (some ⟨h, 0, none⟩) ((topN st).f4.length + 1) c1) HR3
  have := Kd.H_back H3 hM (fun _ h => h)
  unfold addTop
  rw [hmn, Nat.add_sub_cancel]
  rw [Int.toNat_natCast] at this
  exact this
theorem cells_below {B : Nat} {w : World} {g : Nat} (hg : B ≤ g) : ∀ (vs : List Value) (o : Nat) {W : World}, Below B w W → Below B w (W.setCells g o vs)
  | [], _, _, h => h
  | v :: r, o, W, h => by
    rw [World.setCells]
    exact cells_below hg r (o + 1) (h.setCell (p := ⟨g, o, none⟩) hg v)
theorem row_at {α : Type} {d : Kd α} {e g n cap : Nat} {W : World} {base : Nat} {ok : Nat → Prop} {xs : List α} (h : d.R e W base ok (.slice (some ⟨g, 0, none⟩) n cap) xs) : ∃ cur, W.heap[g]? = some (.cells cur e (0, 0)) ∧ n * d.sz ≤ cur.size := by
  have hnx : n = xs.length := (Kd.R_reads' h).1
  obtain ⟨inner, hown⟩ := Kd.R_own h
  rcases hown.2 with ⟨hv, _⟩ | ⟨g', cap', cur, hv, hb, hh, hnc, hcm, hcs, _⟩
  · cases hv
  injection hv with ha _ hc
  injection ha with ha
  injection ha with hg'
  subst hg'
  subst hc
  have h3 : n * d.sz ≤ cap * d.sz := Nat.mul_le_mul_right _ (by omega)
  exact ⟨cur, hh, by omega⟩
theorem top_open {W : World} {B g n cap m : Nat} {st : List NodeS} (h : Kd.S k39 39 W B (fun _ => True) (.slice (some ⟨g, 0, none⟩) n cap) st) (hmn : st.length = m + 1) (hn : n = m + 1) :
    ∃ (okw : Nat → Prop) (A4 : Option Addr) (c4 : Nat), (∀ k, W.heap.size ≤ k → okw k) ∧ Kd.R k39 39 W B okw (.slice A4 (topN st).f4.length c4) (topN st).f4 ∧ W.cell? ⟨g, m * 5 + 4, none⟩ = some (.slice A4 (topN st).f4.length c4) ∧
      Kd.H k39 39 W B (fun _ => True) (.slice (some ⟨g, 0, none⟩) n cap) st (m : Int) okw [.int .i64 (topN st).f0, .string (topN st).f1, .int .i64 (topN st).f2, .int .i64 (topN st).f3, .slice A4 (topN st).f4.length c4] := by
  obtain ⟨oki, c, h1, h2, h3, h4, h5⟩ := Kd.S_lend h zN (m : Int) (by omega) (by omega)
  rw [Int.toNat_natCast, show st.getD m zN = topN st from by unfold topN; rw [hmn, Nat.add_sub_cancel]] at h2
  obtain ⟨v4, rfl, hR⟩ := k39_openM h2
  obtain ⟨A4, c4, rfl⟩ := Kd.R_slice hR
  refine ⟨fun k => oki k ∨ True ∧ W.heap.size ≤ k, A4, c4, fun k hk => .inr ⟨trivial, hk⟩, Kd.R_mono hR (fun k hk => .inl hk), ?_, Kd.H_widen h5⟩
  have := h3 4 _ rfl
  rw [Int.toNat_natCast] at this
  exact this
theorem doesI_cases (t : TokS) : doesI t = 0 ∨ doesI t = 1 ∨ doesI t = 2 ∨ doesI t = 3 := by
  unfold doesI
  repeat' split
  all_goals decide
theorem hole_row {α : Type} {d : Kd α} {e g n cap : Nat} {W : World} {base : Nat} {ok oki : Nat → Prop} {xs : List α} {i : Int} {c : List Value} (h : Kd.H d e W base ok (.slice (some ⟨g, 0, none⟩) n cap) xs i oki c) :
    (∃ cur, W.heap[g]? = some (.cells cur e (0, 0)) ∧ n * d.sz ≤ cur.size) ∧ ¬ oki g := by
  obtain ⟨_, f, hR⟩ := h
  have hr := row_at hR
  exact ⟨hr, (hR.1 g (by simp [Value.ownBlock])).2⟩
theorem pop_open {W : World} {B g n cap q : Nat} {st : List NodeS} (h : Kd.S k39 39 W B (fun _ => True) (.slice (some ⟨g, 0, none⟩) n cap) st) (hmn : st.length = q + 1 + 1) (hn : n = q + 1 + 1) :
    ∃ (okp okw okx : Nat → Prop) (A4 A5 : Option Addr) (c4 c5 : Nat), (∀ k, W.heap.size ≤ k → okw k) ∧ Kd.R k39 39 W B okw (.slice A4 (topN (st.take (q + 1))).f4.length c4) (topN (st.take (q + 1))).f4 ∧ W.cell? ⟨g, q * 5 + 4, none⟩ = some (.slice A4 (topN (st.take (q + 1))).f4.length c4) ∧
      k39.M W B okp (topN st) [.int .i64 (topN st).f0, .string (topN st).f1, .int .i64 (topN st).f2, .int .i64 (topN st).f3, .slice A5 (topN st).f4.length c5] ∧
      (∀ j u, ([.int .i64 (topN st).f0, .string (topN st).f1, .int .i64 (topN st).f2, .int .i64 (topN st).f3, .slice A5 (topN st).f4.length c5] : List Value)[j]? = some u → W.cell? ⟨g, (q + 1) * 5 + j, none⟩ = some u) ∧
      (∀ k, okp k → okx k ∧ k < W.heap.size ∧ ¬ okw k) ∧ (∀ k, okw k → okx k) ∧
      Kd.H k39 39 W B (fun _ => True) (.slice (some ⟨g, 0, none⟩) (q + 1) cap) (st.take (q + 1)) (q : Int) okx [.int .i64 (topN (st.take (q + 1))).f0, .string (topN (st.take (q + 1))).f1, .int .i64 (topN (st.take (q + 1))).f2, .int .i64 (topN (st.take (q + 1))).f3, .slice A4 (topN (st.take (q + 1))).f4.length c4] := by
  obtain ⟨oki, c, h1, h2, h3, h4, h5⟩ := Kd.S_lend h zN ((q + 1 : Nat) : Int) (by omega) (by omega)
  have e1 : st.getD (q + 1) zN = topN st := by unfold topN; rw [hmn, Nat.add_sub_cancel]
  rw [Int.toNat_natCast, e1] at h2
  obtain ⟨v5, rfl, hR⟩ := k39_openM h2
  obtain ⟨A5, c5, rfl⟩ := Kd.R_slice hR
  have h6 := H_take h5 (m := q + 1) (by omega) (by rw [Int.toNat_natCast]; exact Nat.le_refl _)
  obtain ⟨okj, d, i1, i2, i3, i4, i5⟩ := Kd.S_lend h6 zN (q : Int) (by omega) (by omega)
  have e2 : (st.take (q + 1)).getD q zN = topN (st.take (q + 1)) := by unfold topN; rw [List.length_take, hmn, Nat.min_eq_left (by omega), Nat.add_sub_cancel]
  rw [Int.toNat_natCast, e2] at i2
  obtain ⟨v4, rfl, hR4⟩ := k39_openM i2
  obtain ⟨A4, c4, rfl⟩ := Kd.R_slice hR4
  have h7 := Kd.H_widen (Kd.H_more i5 (fun _ _ => trivial))
  have hb := k39.M_bound h2
  refine ⟨_, fun k => okj k ∨ True ∧ W.heap.size ≤ k, _, A4, A5, c4, c5, fun k hk => .inr ⟨trivial, hk⟩, Kd.R_mono hR4 (fun k hk => .inl hk), ?_, hb, ?_, ?_, ?_, h7⟩
  · have := i3 4 _ rfl
    rw [Int.toNat_natCast] at this
    exact this
  · intro j u hu
    have := h3 j u hu
    rw [Int.toNat_natCast] at this
    exact this
  · intro k hk
    refine ⟨.inl (.inr hk.1), hk.2.2.1, ?_⟩
    rintro (h8 | h8)
    · exact (i4 k h8).1.2 hk.1
    · have := hk.2.2.1; have := h8.2; omega
  · intro k hk
    rcases hk with hk | hk
    · exact .inl (.inl hk)
    · exact .inr hk
theorem row_cap {α : Type} {d : Kd α} {e g n cap : Nat} {W : World} {base : Nat} {ok : Nat → Prop} {xs : List α} (h : d.R e W base ok (.slice (some ⟨g, 0, none⟩) n cap) xs) : n ≤ cap := by
  have hnx : n = xs.length := (Kd.R_reads' h).1
  obtain ⟨inner, hown⟩ := Kd.R_own h
  rcases hown.2 with ⟨hv, _⟩ | ⟨g', cap', cur, hv, hb, hh, hnc, hcm, hcs, _⟩
  · cases hv
  injection hv with ha _ hc
  subst hc
  omega
end Go.Proofs.YtngcojabofkbjaaDoor.P
