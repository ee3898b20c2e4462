/- Part 3 of what the law TokenTells leans on: contracts of the functions that it reaches, and plain lemmas; printed walks and words (by the kit's print, through wip/mp.py) and the session's own texts, one behind the other, what is not used left out (wip/prune.py). -/
import Derived.Maps.Own
import Derived.ChangeMaps4
import Derived.Lib.Strings
import Derived.Lib.Slices
import Derived.Lib.Walk
import Derived.Lib.Builder
import Derived.Lib.AppendStr
import Derived.Lib.UnsafeStr
import Derived.Lib.MakeNoZero
import Derived.Laws.Externs
import Derived.Test.YtngcojabofkbjaaDoorMTokenTells1
import Derived.Test.YtngcojabofkbjaaDoorMTokenTells2
namespace Go.Proofs.YtngcojabofkbjaaDoor.P
open Go.RowKit Go.Proofs.YtngcojabofkbjaaDoorW.PrintWords Go.Proofs.YtngcojabofkbjaaDoorW.PrintLast Go.Proofs.YtngcojabofkbjaaDoorW.PrintMore
set_option linter.unusedVariables false
set_option linter.unusedSimpArgs false
abbrev TokR := Int × ByteArray × Int × Int × Bool × ByteArray × Int
def tokOne (k : Nat) (q : Int) (x : ByteArray) (at0 : Int) : Option TokR :=
  if q = 0 then token_reader_name.f x at0 else if q = 1 then token_reader_num.f x at0 else if q = 2 then token_reader_str.f k x at0 else token_reader_one.f x at0
def tokLoop : Nat → ByteArray → ByteArray → List S29 → Int → Option (List S29 × Int × Int)
  | 0, _, _, _, _ => none
  | k + 1, s, x, acc, at0 => if at0 < (s.size : Int) then (if 0 ≤ at0 then (if ofK (bt s at0) = 4 then some ([], at0, 4)
      else (tokOne k (ofK (bt s at0)) x at0).bind fun r => if r.2.2.2.2.1 = false then some ([], at0, 4)
        else if acc.length = 1000 then some ([], at0, 2)
        else (token_reader_skip.f k r.2.2.2.2.2.1 r.2.2.2.2.2.2).bind fun z => tokLoop k s z.1 (acc ++ [⟨r.1, r.2.1, r.2.2.1, at0⟩]) z.2) else none)
    else some (acc, s.size, 0)
def tokAll (k : Nat) (s : ByteArray) : Option (List S29 × Int × Int) :=
  if (s.size : Int) > 5000 then some ([], 0, 2) else (token_reader_skip.f k s 0).bind fun z => tokLoop k s z.1 [] z.2
theorem chkInt (b : Bool) (q : Int) (w : World) : (Instr.checkKey b 10000 3 (.int .i64 q)).run Tryd.prog w = .ok () w := by
  have h3 := run_underlying (w := w) Tryd.underlying3
  show (Instr.checkKey b (9999 + 1) 3 (.int .i64 q)).run Tryd.prog w = .ok () w
  unfold Instr.checkKey
  simp [h3]
def beginM : Obj := .map #[⟨.int .i64 0, .func (.func 33) #[] #[], 0⟩, ⟨.int .i64 1, .func (.func 34) #[] #[], 1⟩, ⟨.int .i64 2, .func (.func 35) #[] #[], 2⟩, ⟨.int .i64 3, .func (.func 36) #[] #[], 3⟩] 4
def beginF (q : Int) : Nat := if q = 0 then 33 else if q = 1 then 34 else if q = 2 then 35 else 36
theorem lookup_yes (w : World) (r : Nat) (q : Int) (h0 : 0 ≤ q) (h3 : q ≤ 3) (hb : w.heap[r]? = some beginM) :
    Sem.run Tryd.prog (Instr.lookup 53 (.map (some r)) (.int .i64 q) true) w = .ok (.tuple #[.func (.func (beginF q)) #[] #[], .bool true]) w := by
  have h53 := run_underlying (w := w) Tryd.underlying53
  have hi := run_underlying (w := w) Tryd.underlying3
  unfold beginM at hb
  obtain rfl | rfl | rfl | rfl : q = 0 ∨ q = 1 ∨ q = 2 ∨ q = 3 := by omega
  all_goals simp [Instr.lookup, chkInt, Instr.findKey, Instr.findNow, Instr.sameNow, h53, hi, MapKept.run_getObj_map hb, Result.andThen, beginF]
theorem lookup_no (w : World) (r : Nat) (hb : w.heap[r]? = some beginM) :
    Sem.run Tryd.prog (Instr.lookup 53 (.map (some r)) (.int .i64 4) true) w = .ok (.tuple #[.nilFunc, .bool false]) w := by
  have h53 := run_underlying (w := w) Tryd.underlying53
  have hi := run_underlying (w := w) Tryd.underlying3
  have hz : (zeroValue 50).run Tryd.prog w = .ok .nilFunc w := by kernel_rfl
  unfold beginM at hb
  simp [Instr.lookup, chkInt, Instr.findKey, Instr.findNow, Instr.sameNow, h53, hi, MapKept.run_getObj_map hb, Result.andThen, hz]
theorem set_push {α : Type} (a : Array α) (x y : α) : (a.push x).setIfInBounds a.size y = a.push y := by
  apply Array.ext
  · simp
  · intro i h1 h2
    rw [Array.getElem_setIfInBounds]
    · split
      · subst_vars; simp
      · rename_i hne
        have hlt : i < a.size := by simp at h2; omega
        rw [Array.getElem_push_lt hlt, Array.getElem_push_lt hlt]
    · simp at h2 ⊢; omega
theorem heap_set_new (w : World) (o o' : Obj) : ChangeMaps.setBlock (w.alloc o) w.heap.size o' = w.alloc o' := by
  unfold ChangeMaps.setBlock
  have e : (w.alloc o).heap.setIfInBounds w.heap.size o' = (w.alloc o').heap := set_push w.heap o o'
  rw [e]
  rfl
theorem set_0 (w : World) (v : Value) : Sem.run Tryd.prog (Instr.mapUpdate 53 (.map (some w.heap.size)) (.int .i64 0) v) (w.alloc (.map #[] 0)) = .ok () (w.alloc (.map #[⟨.int .i64 0, v, 0⟩] 1)) := by
  have hb : (w.alloc (.map #[] 0)).heap[w.heap.size]? = some (.map #[] 0) := heap_alloc_new w _
  have h53 := run_underlying (w := w.alloc (.map #[] 0)) Tryd.underlying53
  have hi := run_underlying (w := w.alloc (.map #[] 0)) Tryd.underlying3
  simp [Instr.mapUpdate, chkInt, Instr.findKey, Instr.findNow, Instr.sameNow, h53, hi, MapKept.run_getObj_map hb, MapKept.run_setObj_map _ hb, Result.andThen]
  exact heap_set_new w (.map #[] 0) _
theorem set_1 (w : World) (v0 v : Value) : Sem.run Tryd.prog (Instr.mapUpdate 53 (.map (some w.heap.size)) (.int .i64 1) v) (w.alloc (.map #[⟨.int .i64 0, v0, 0⟩] 1)) = .ok () (w.alloc (.map #[⟨.int .i64 0, v0, 0⟩, ⟨.int .i64 1, v, 1⟩] 2)) := by
  have hb : (w.alloc (.map #[⟨.int .i64 0, v0, 0⟩] 1)).heap[w.heap.size]? = some (.map #[⟨.int .i64 0, v0, 0⟩] 1) := heap_alloc_new w _
  have h53 := run_underlying (w := w.alloc (.map #[⟨.int .i64 0, v0, 0⟩] 1)) Tryd.underlying53
  have hi := run_underlying (w := w.alloc (.map #[⟨.int .i64 0, v0, 0⟩] 1)) Tryd.underlying3
  simp [Instr.mapUpdate, chkInt, Instr.findKey, Instr.findNow, Instr.sameNow, h53, hi, MapKept.run_getObj_map hb, MapKept.run_setObj_map _ hb, Result.andThen]
  exact heap_set_new w (.map #[⟨.int .i64 0, v0, 0⟩] 1) _
theorem set_2 (w : World) (v0 v1 v : Value) : Sem.run Tryd.prog (Instr.mapUpdate 53 (.map (some w.heap.size)) (.int .i64 2) v) (w.alloc (.map #[⟨.int .i64 0, v0, 0⟩, ⟨.int .i64 1, v1, 1⟩] 2)) = .ok () (w.alloc (.map #[⟨.int .i64 0, v0, 0⟩, ⟨.int .i64 1, v1, 1⟩, ⟨.int .i64 2, v, 2⟩] 3)) := by
  have hb : (w.alloc (.map #[⟨.int .i64 0, v0, 0⟩, ⟨.int .i64 1, v1, 1⟩] 2)).heap[w.heap.size]? = some (.map #[⟨.int .i64 0, v0, 0⟩, ⟨.int .i64 1, v1, 1⟩] 2) := heap_alloc_new w _
  have h53 := run_underlying (w := w.alloc (.map #[⟨.int .i64 0, v0, 0⟩, ⟨.int .i64 1, v1, 1⟩] 2)) Tryd.underlying53
  have hi := run_underlying (w := w.alloc (.map #[⟨.int .i64 0, v0, 0⟩, ⟨.int .i64 1, v1, 1⟩] 2)) Tryd.underlying3
  simp [Instr.mapUpdate, chkInt, Instr.findKey, Instr.findNow, Instr.sameNow, h53, hi, MapKept.run_getObj_map hb, MapKept.run_setObj_map _ hb, Result.andThen]
  exact heap_set_new w (.map #[⟨.int .i64 0, v0, 0⟩, ⟨.int .i64 1, v1, 1⟩] 2) _
theorem set_3 (w : World) (v0 v1 v2 v : Value) : Sem.run Tryd.prog (Instr.mapUpdate 53 (.map (some w.heap.size)) (.int .i64 3) v) (w.alloc (.map #[⟨.int .i64 0, v0, 0⟩, ⟨.int .i64 1, v1, 1⟩, ⟨.int .i64 2, v2, 2⟩] 3)) = .ok () (w.alloc (.map #[⟨.int .i64 0, v0, 0⟩, ⟨.int .i64 1, v1, 1⟩, ⟨.int .i64 2, v2, 2⟩, ⟨.int .i64 3, v, 3⟩] 4)) := by
  have hb : (w.alloc (.map #[⟨.int .i64 0, v0, 0⟩, ⟨.int .i64 1, v1, 1⟩, ⟨.int .i64 2, v2, 2⟩] 3)).heap[w.heap.size]? = some (.map #[⟨.int .i64 0, v0, 0⟩, ⟨.int .i64 1, v1, 1⟩, ⟨.int .i64 2, v2, 2⟩] 3) := heap_alloc_new w _
  have h53 := run_underlying (w := w.alloc (.map #[⟨.int .i64 0, v0, 0⟩, ⟨.int .i64 1, v1, 1⟩, ⟨.int .i64 2, v2, 2⟩] 3)) Tryd.underlying53
  have hi := run_underlying (w := w.alloc (.map #[⟨.int .i64 0, v0, 0⟩, ⟨.int .i64 1, v1, 1⟩, ⟨.int .i64 2, v2, 2⟩] 3)) Tryd.underlying3
  simp [Instr.mapUpdate, chkInt, Instr.findKey, Instr.findNow, Instr.sameNow, h53, hi, MapKept.run_getObj_map hb, MapKept.run_setObj_map _ hb, Result.andThen]
  exact heap_set_new w (.map #[⟨.int .i64 0, v0, 0⟩, ⟨.int .i64 1, v1, 1⟩, ⟨.int .i64 2, v2, 2⟩] 3) _
theorem own_ne_map {W : World} {base n size : Nat} {e : TypeId} {v : Value} {xs : List Value} (h : W.ownsRow base e size v n xs) {m c : Nat} {es : Array MapEntry} (hm : W.heap[m]? = some (.map es c)) : some m ≠ v.ownBlock := by
  rcases h.2 with ⟨hv, _⟩ | ⟨g, cap, cur, hv, _, hc, _⟩
  · subst hv; simp [Value.ownBlock]
  · subst hv
    intro e
    simp only [Value.ownBlock, Option.some.injEq] at e
    subst e
    rw [hc] at hm
    cases hm
theorem R_ne_map {α : Type} {d : Kd α} {e : TypeId} {W : World} {base : Nat} {ok : Nat → Prop} {v : Value} {xs : List α} (h : d.R e W base ok v xs) {m c : Nat} {es : Array MapEntry} (hm : W.heap[m]? = some (.map es c)) : some m ≠ v.ownBlock := by
  obtain ⟨h0, inner, hown, hr⟩ := h
  exact own_ne_map hown hm
theorem begin_ne {α : Type} {d : Kd α} {e : TypeId} {W : World} {base : Nat} {ok : Nat → Prop} {v : Value} {xs : List α} (h : d.R e W base ok v xs) {m : Nat} (hm : W.heap[m]? = some beginM) : some m ≠ v.ownBlock := R_ne_map h hm
theorem begin_far {w : World} {m : Nat} {p : Addr} (h : w.heap[m]? = some beginM) (hne : m ≠ p.block) (u : Value) : (w.setCell p u).heap[m]? = some beginM := (Below.heap_setCell w p u m hne).trans h
theorem tokOne_calls (k : Nat) (q : Int) (h0 : 0 ≤ q) (h3 : q ≤ 3) (g : Nat) (x : ByteArray) (at0 : Int) (a b c : Int) (t : ByteArray) (ok : Bool) (x' : ByteArray) (at' : Int) (w0 W : World) (hI : IsS55 w0 W g x at0) (hB : Below w0.heap.size w0 W) (hG : GInv w0) (h : tokOne k q x at0 = some (a, t, b, c, ok, x', at')) :
    Calls Tryd.prog (beginF q) #[.pointer (some ⟨g, 0, none⟩)] W fun e w' => e = .returned (.tuple #[.agg #[.int .i64 a, .string t, .int .i64 b, .int .i64 c], .bool ok]) ∧ IsS55 w0 w' g x' at' ∧ Below w0.heap.size w0 w' ∧ KeepBut W w' g none := by
  obtain rfl | rfl | rfl | rfl : q = 0 ∨ q = 1 ∨ q = 2 ∨ q = 3 := by omega
  · exact token_reader_name.calls g x at0 a t b c ok x' at' w0 W hI hB h
  · exact token_reader_num.calls g x at0 a t b c ok x' at' w0 W hI hB hG h
  · exact token_reader_str.calls k g x at0 a t b c ok x' at' w0 W hI hB h
  · exact token_reader_one.calls g x at0 a t b c ok x' at' w0 W hI hB h
theorem begin_enter (q : Int) (h0 : 0 ≤ q) (h3 : q ≤ 3) (args : Array Value) (w : World) : (callFunc (beginF q) args).run Tryd.prog w = .ok (.enter (beginF q) args) w := by
  obtain rfl | rfl | rfl | rfl : q = 0 ∨ q = 1 ∨ q = 2 ∨ q = 3 := by omega
  · exact run_enter Tryd.func33 (by kernel_rfl) (by kernel_rfl) _ _
  · exact run_enter Tryd.func34 (by kernel_rfl) (by kernel_rfl) _ _
  · exact run_enter Tryd.func35 (by kernel_rfl) (by kernel_rfl) _ _
  · exact run_enter Tryd.func36 (by kernel_rfl) (by kernel_rfl) _ _
theorem ofK_range (c : Int) : 0 ≤ ofK c ∧ ofK c ≤ 4 := by
  unfold ofK
  repeat' split
  all_goals omega
set_option maxHeartbeats 1600000 in
set_option maxRecDepth 100000 in
theorem tokAll_walk (k : Nat) (a0 : ByteArray) (r1 : List S29) (r2 r3 : Int) (w : World) (hG : GInv w) (h : tokAll k a0 = some (r1, r2, r3)) :
    Calls Tryd.prog 16 #[.string a0] w fun e w' => ∃ v0_ : Value, e = .returned (.tuple #[v0_, .int .i64 r2, .int .i64 r3]) ∧ Kd.R k29 29 w' w.heap.size (fun _ => True) v0_ r1 ∧ Below w.heap.size w w' := by
  unfold tokAll at h
  split at h
  · rename_i hbig
    simp only [Option.some.injEq, Prod.mk.injEq] at h
    obtain ⟨rfl, rfl, rfl⟩ := h
    have b1 : decide (5000 < (a0.size : Int)) = true := decide_eq_true hbig
    have b2 : decide (5000 < a0.size) = true := decide_eq_true (by omega)
    clear hbig
    go_enter Tryd.func16, Tryd.ntmps16
    go_wp2
    go_ret3
    exact ⟨_, rfl, Kd.R_nil _ _ _ _ _, Below.refl _ _⟩
  · rename_i hbig
    have b1 : decide (5000 < (a0.size : Int)) = false := decide_eq_false hbig
    have b2 : decide (5000 < a0.size) = false := decide_eq_false (by omega)
    clear hbig
    obtain ⟨⟨x, at0⟩, A0, h⟩ := Option.bind_eq_some_iff.mp h
    have AS := Aside0.mk A0
    have AL := Aside0.mk h
    clear A0 h
    go_enter Tryd.func16, Tryd.ntmps16
    have mk := fun W => @run_makeMap Tryd.prog W
    have s0 := set_0 w
    have s1 := set_1 w
    have s2 := set_2 w
    have s3 := set_3 w
    have HM := Aside0.mk (heap_alloc_new w beginM)
    have HB := Aside0.mk (below_alloc (Below.refl w.heap.size w) beginM)
    have hsz : (w.alloc beginM).heap.size = w.heap.size + 1 := by simp
    have HI := Aside0.mk (IsS55.new w (w.alloc beginM) a0 0 HB.out)
    have HM2 := Aside0.mk (((below_alloc (Below.refl (w.alloc beginM).heap.size (w.alloc beginM)) (.cells #[.string a0, .int .i64 0] 55)).block w.heap.size (by rw [hsz]; omega)).trans HM.out)
    have HB2 := Aside0.mk (below_alloc HB.out (.cells #[.string a0, .int .i64 0] 55))
    rw [hsz] at HI
    clear HM HB hsz
    have hgm : w.heap.size + 1 ≠ w.heap.size := by omega
    go_wp2_with (go_at_call 37; refine (token_reader_skip.calls k (w.heap.size + 1) a0 0 x at0 w _ HI.out HB2.out AS.out).mono ?_; rintro e w1 ⟨rfl, hi, hb, hk⟩; have n0_ := Aside0.mk (KeepBut.blk hk HM2.out (Ne.symm hgm) (by simp)); clear HM2 HB2 HI AS hk; have HM := n0_; have HB := Aside0.mk hb; have HI := Aside0.mk hi; clear n0_ hb hi)
    clear mk s0 s1 s2 s3
    generalize w.heap.size + 1 = g at *
    go_loopg [7] k (fun kq v7 W => ∃ (x : ByteArray) (acc : List S29) (p : Int), Aside0 (tokLoop kq a0 x acc p = some (r1, r2, r3)) ∧ Aside0 (Kd.R k29 29 W w.heap.size (fun _ => True) v7 acc) ∧ Aside0 (IsS55 w W g x p) ∧ Aside0 (W.heap[w.heap.size]? = some beginM) ∧ Aside0 (Below w.heap.size w W) ∧ Aside0 (acc.length ≤ 1000))
    case atStart => exact ⟨x, [], at0, AL, ⟨Kd.R_nil _ _ _ _ _⟩, HI, HM, HB, ⟨by simp⟩⟩
    case round =>
      clear AL HI HM HB
      obtain ⟨x, acc, p, HA, HO, HI, HM, HB, HL⟩ := hrel
      cases gk with
      | zero => exact absurd HA.out (by simp [tokLoop])
      | succ k1 =>
        have H := HA.out
        clear HA
        simp only [tokLoop] at H
        have c0 := cellS55_0 HI.out.1
        have c1 := cellS55_1 HI.out.1
        by_cases hlt : p < (a0.size : Int)
        · rw [if_pos hlt] at H
          by_cases hp0 : 0 ≤ p
          · rw [if_pos hp0] at H
            obtain ⟨n, rfl⟩ := Int.eq_ofNat_of_zero_le hp0
            have hn : n < a0.size := by omega
            have d1 : decide ((n : Int) < (a0.size : Int)) = true := decide_eq_true hlt
            have d2 : decide (n < a0.size) = true := decide_eq_true hn
            have hbt : bt a0 n = (a0[n].toNat : Int) := by simp [bt, hn]
            rw [hbt] at H
            have hq := ofK_range (a0[n].toNat : Int)
            have HQ := Aside0.mk (fun W => token_of.calls 5 (a0[n].toNat : Int) _ W (token_of_eq 5 (by omega) _))
            generalize ofK (a0[n].toNat : Int) = q at *
            clear hbt hlt hp0
            by_cases hq4 : q = 4
            · subst hq4
              rw [if_pos rfl] at H
              simp only [Option.some.injEq, Prod.mk.injEq] at H
              obtain ⟨rfl, rfl, rfl⟩ := H
              have hlk : ∀ m, Sem.run Tryd.prog (Instr.lookup 53 (.map (some w.heap.size)) (.int .i64 4) true) (wr.drewN m) = .ok (.tuple #[.nilFunc, .bool false]) (wr.drewN m) := fun m => lookup_no _ _ HM.out
              clear hq
              go_wp2_with (go_at_call 38; refine (HQ.out _).mono ?_; rintro e w2 ⟨rfl, ⟨nd, rfl⟩⟩)
              go_ret3
              exact ⟨_, rfl, Kd.R_nil _ _ _ _ _, (by repeat (first | (with_reducible first | exact HB.out | apply below_alloc | apply pw_below_drewN | apply below_drew1) | exact HB.out))⟩
            · rw [if_neg hq4] at H
              have hlk : ∀ m, Sem.run Tryd.prog (Instr.lookup 53 (.map (some w.heap.size)) (.int .i64 q) true) (wr.drewN m) = .ok (.tuple #[.func (.func (beginF q)) #[] #[], .bool true]) (wr.drewN m) := fun m => lookup_yes _ _ q hq.1 (by omega) HM.out
              have hcf := fun args W => begin_enter q hq.1 (by omega) args W
              obtain ⟨⟨ka, ta, na, ca, ok, x', p'⟩, A1, H⟩ := Option.bind_eq_some_iff.mp H
              have HC := Aside0.mk (fun W hI hB => tokOne_calls k1 q hq.1 (by omega) g x n ka na ca ta ok x' p' w W hI hB hG A1)
              generalize beginF q = F at *
              clear hq hq4 A1
              have HH := Aside0.mk H
              clear H
              go_wp2_with (go_at_call 38; refine (HQ.out _).mono ?_; rintro e w2 ⟨rfl, ⟨nd, rfl⟩⟩)
              have HI1 := Aside0.mk (show IsS55 w (wr.drewN nd) g x n from HI.out)
              have HM1 := Aside0.mk (show (wr.drewN nd).heap[w.heap.size]? = some beginM from HM.out)
              have HB1 := Aside0.mk (show Below w.heap.size w (wr.drewN nd) from (by repeat (first | (with_reducible first | exact HB.out | apply below_alloc | apply pw_below_drewN | apply below_drew1) | exact HB.out)))
              have HO1 := Aside0.mk (show Kd.R k29 29 (wr.drewN nd) w.heap.size (fun _ => True) u7 acc from by (with_reducible repeat (first | apply Kd.R_alloc | apply Kd.R_drewN | apply Kd.R_drew)); exact HO.out)
              clear HI HM HB HO c0 c1 hlk hcf HQ
              refine (HC.out _ HI1.out HB1.out).mono ?_
              rintro e w3 ⟨rfl, hi, hb, hk⟩
              have HO := Aside0.mk (Kd.R_mono (Kd.R_keep (IsS55.apart HI1.out HO1.out (by decide)) hk (fun _ h => h.2)) (fun _ _ => trivial) : Kd.R k29 29 w3 w.heap.size (fun _ => True) u7 acc)
              have HM := Aside0.mk (KeepBut.blk hk HM1.out (Ne.symm hgm) (by simp))
              have HB := Aside0.mk hb
              have HI := Aside0.mk hi
              clear HI1 HM1 HB1 HO1 HC hi hb hk
              cases ok with
              | false =>
                have H := HH.out
                rw [if_pos rfl] at H
                simp only [Option.some.injEq, Prod.mk.injEq] at H
                obtain ⟨rfl, rfl, rfl⟩ := H
                go_wp2_with ((with_reducible refine gate_dst (N := 11) rfl ?_); refine box_event ?hg (N := 11) ?hd (cs := #[.int .i64 0, .string (⟨#[]⟩ : ByteArray), .int .i64 0, .int .i64 0]) (t := 29) ?hr ?_; (case hd => rfl); (case hg => rfl); (case hr => first | (go_simp; done) | (go_simp; rfl)); intro gb hg w4 hbox hb; have n0_ := Aside0.mk (IsS55.below HI.out hb); have n1_ := Aside0.mk (Kd.R_below (Kd.R_elderB HO.out gb (Nat.le_of_eq hg.symm)) hb); have n2_ := Aside0.mk (below_step HB.out hb); have n3_ := Aside0.mk hbox; have n4_ := Aside0.mk ((by rw [hg]; exact below_size HB.out) : w.heap.size ≤ gb); have n5_ := Aside0.mk ((hb.block _ (blk_lt HM.out)).trans HM.out); have n6_ := Aside0.mk ((by rw [hg]; exact Nat.ne_of_lt (IsS55.lt HI.out)) : g ≠ gb); have n7_ := Aside0.mk ((by rw [hg]; exact Nat.ne_of_lt (blk_lt HM.out)) : w.heap.size ≠ gb); clear HI HO HB HM; have HI := n0_; have HO := n1_; have HB := n2_; have BK := n3_; have GW := n4_; have HM := n5_; have NB := n6_; have NM := n7_; clear n0_ n1_ n2_ n3_ n4_ n5_ n6_ n7_; clear hb hbox hg; have z0 : _ = some (Value.int .i64 0) := (blk_cell BK.out 0).trans rfl; have z1 : _ = some (Value.string (⟨#[]⟩ : ByteArray)) := (blk_cell BK.out 1).trans rfl; have z2 : _ = some (Value.int .i64 0) := (blk_cell BK.out 2).trans rfl; have z3 : _ = some (Value.int .i64 0) := (blk_cell BK.out 3).trans rfl; have y0 := blk_frozen BK.out 0; have y1 := blk_frozen BK.out 1; have y2 := blk_frozen BK.out 2; have y3 := blk_frozen BK.out 3; obtain ⟨Ao, co, eo⟩ := Kd.R_slice HO.out; subst eo)
                go_ret3
                exact ⟨_, rfl, Kd.R_nil _ _ _ _ _, (by repeat (first | (with_reducible first | exact HB.out | apply below_alloc | apply pw_below_drewN | apply below_drew1 | refine below_set ?_ GW.out) | exact HB.out))⟩
              | true =>
                have H := HH.out
                rw [if_neg (by simp)] at H
                clear HH
                by_cases hl : acc.length = 1000
                · rw [if_pos hl] at H
                  simp only [Option.some.injEq, Prod.mk.injEq] at H
                  obtain ⟨rfl, rfl, rfl⟩ := H
                  have e1 : ((acc.length : Int) == 1000) = true := by simp [hl]
                  clear hl
                  go_wp2_with ((with_reducible refine gate_dst (N := 11) rfl ?_); refine box_event ?hg (N := 11) ?hd (cs := #[.int .i64 0, .string (⟨#[]⟩ : ByteArray), .int .i64 0, .int .i64 0]) (t := 29) ?hr ?_; (case hd => rfl); (case hg => rfl); (case hr => first | (go_simp; done) | (go_simp; rfl)); intro gb hg w4 hbox hb; have n0_ := Aside0.mk (IsS55.below HI.out hb); have n1_ := Aside0.mk (Kd.R_below (Kd.R_elderB HO.out gb (Nat.le_of_eq hg.symm)) hb); have n2_ := Aside0.mk (below_step HB.out hb); have n3_ := Aside0.mk hbox; have n4_ := Aside0.mk ((by rw [hg]; exact below_size HB.out) : w.heap.size ≤ gb); have n5_ := Aside0.mk ((hb.block _ (blk_lt HM.out)).trans HM.out); have n6_ := Aside0.mk ((by rw [hg]; exact Nat.ne_of_lt (IsS55.lt HI.out)) : g ≠ gb); have n7_ := Aside0.mk ((by rw [hg]; exact Nat.ne_of_lt (blk_lt HM.out)) : w.heap.size ≠ gb); clear HI HO HB HM; have HI := n0_; have HO := n1_; have HB := n2_; have BK := n3_; have GW := n4_; have HM := n5_; have NB := n6_; have NM := n7_; clear n0_ n1_ n2_ n3_ n4_ n5_ n6_ n7_; clear hb hbox hg; have z0 : _ = some (Value.int .i64 0) := (blk_cell BK.out 0).trans rfl; have z1 : _ = some (Value.string (⟨#[]⟩ : ByteArray)) := (blk_cell BK.out 1).trans rfl; have z2 : _ = some (Value.int .i64 0) := (blk_cell BK.out 2).trans rfl; have z3 : _ = some (Value.int .i64 0) := (blk_cell BK.out 3).trans rfl; have y0 := blk_frozen BK.out 0; have y1 := blk_frozen BK.out 1; have y2 := blk_frozen BK.out 2; have y3 := blk_frozen BK.out 3; obtain ⟨Ao, co, eo⟩ := Kd.R_slice HO.out; subst eo)
                  go_ret3
                  exact ⟨_, rfl, Kd.R_nil _ _ _ _ _, (by repeat (first | (with_reducible first | exact HB.out | apply below_alloc | apply pw_below_drewN | apply below_drew1 | refine below_set ?_ GW.out) | exact HB.out))⟩
                · rw [if_neg hl] at H
                  obtain ⟨⟨x2, p2⟩, A2, H⟩ := Option.bind_eq_some_iff.mp H
                  have e1 : ((acc.length : Int) == 1000) = false := by rw [beq_eq_false_iff_ne]; omega
                  have HL2 := Aside0.mk (show acc.length < 1000 by have := HL.out; omega)
                  have AS := Aside0.mk A2
                  have AL := Aside0.mk H
                  clear hl A2 H HL
                  go_upto_region 16 with ((with_reducible refine gate_dst (N := 11) rfl ?_); refine box_event ?hg (N := 11) ?hd (cs := #[.int .i64 0, .string (⟨#[]⟩ : ByteArray), .int .i64 0, .int .i64 0]) (t := 29) ?hr ?_; (case hd => rfl); (case hg => rfl); (case hr => first | (go_simp; done) | (go_simp; rfl)); intro gb hg w4 hbox hb; have n0_ := Aside0.mk (IsS55.below HI.out hb); have n1_ := Aside0.mk (Kd.R_below (Kd.R_elderB HO.out gb (Nat.le_of_eq hg.symm)) hb); have n2_ := Aside0.mk (below_step HB.out hb); have n3_ := Aside0.mk hbox; have n4_ := Aside0.mk ((by rw [hg]; exact below_size HB.out) : w.heap.size ≤ gb); have n5_ := Aside0.mk ((hb.block _ (blk_lt HM.out)).trans HM.out); have n6_ := Aside0.mk ((by rw [hg]; exact Nat.ne_of_lt (IsS55.lt HI.out)) : g ≠ gb); have n7_ := Aside0.mk ((by rw [hg]; exact Nat.ne_of_lt (blk_lt HM.out)) : w.heap.size ≠ gb); clear HI HO HB HM; have HI := n0_; have HO := n1_; have HB := n2_; have BK := n3_; have GW := n4_; have HM := n5_; have NB := n6_; have NM := n7_; clear n0_ n1_ n2_ n3_ n4_ n5_ n6_ n7_; clear hb hbox hg; have z0 : _ = some (Value.int .i64 0) := (blk_cell BK.out 0).trans rfl; have z1 : _ = some (Value.string (⟨#[]⟩ : ByteArray)) := (blk_cell BK.out 1).trans rfl; have z2 : _ = some (Value.int .i64 0) := (blk_cell BK.out 2).trans rfl; have z3 : _ = some (Value.int .i64 0) := (blk_cell BK.out 3).trans rfl; have y0 := blk_frozen BK.out 0; have y1 := blk_frozen BK.out 1; have y2 := blk_frozen BK.out 2; have y3 := blk_frozen BK.out 3; obtain ⟨Ao, co, eo⟩ := Kd.R_slice HO.out; subst eo)
                  go_upto_region 18 with (fail)
                  go_upto_region 19 with (fail)
                  have HI2 : IsS55 w (((((w4.setCell ⟨gb, 0, none⟩ (.int .i64 ka)).setCell ⟨gb, 1, none⟩ (.string ta)).setCell ⟨gb, 2, none⟩ (.int .i64 na)).setCell ⟨gb, 3, none⟩ (.int .i64 ca)).setCell ⟨gb, 3, none⟩ (.int .i64 (n : Int))) g x' p' := (by repeat (first | (with_reducible first | exact HI.out | apply IsS55.alloc | apply IsS55.drewN | apply IsS55.drew | apply IsS55.set_0 | apply IsS55.set_1 | refine IsS55.far ?_ NB.out _) | exact HI.out))
                  have HM2 : (((((w4.setCell ⟨gb, 0, none⟩ (.int .i64 ka)).setCell ⟨gb, 1, none⟩ (.string ta)).setCell ⟨gb, 2, none⟩ (.int .i64 na)).setCell ⟨gb, 3, none⟩ (.int .i64 ca)).setCell ⟨gb, 3, none⟩ (.int .i64 (n : Int))).heap[w.heap.size]? = some beginM := begin_far (begin_far (begin_far (begin_far (begin_far HM.out NM.out _) NM.out _) NM.out _) NM.out _) NM.out _
                  have HB2 : Below w.heap.size w (((((w4.setCell ⟨gb, 0, none⟩ (.int .i64 ka)).setCell ⟨gb, 1, none⟩ (.string ta)).setCell ⟨gb, 2, none⟩ (.int .i64 na)).setCell ⟨gb, 3, none⟩ (.int .i64 ca)).setCell ⟨gb, 3, none⟩ (.int .i64 (n : Int))) := (by repeat (first | (with_reducible first | exact HB.out | apply below_alloc | apply pw_below_drewN | apply below_drew1 | refine below_set ?_ GW.out) | exact HB.out))
                  have HO2 : Kd.R k29 29 (((((w4.setCell ⟨gb, 0, none⟩ (.int .i64 ka)).setCell ⟨gb, 1, none⟩ (.string ta)).setCell ⟨gb, 2, none⟩ (.int .i64 na)).setCell ⟨gb, 3, none⟩ (.int .i64 ca)).setCell ⟨gb, 3, none⟩ (.int .i64 (n : Int))) w.heap.size (fun k_ => k_ ≠ gb) (.slice Ao acc.length co) acc := Kd.R_mono (Kd.R_far (p := ⟨gb, 3, none⟩) (Kd.R_far (p := ⟨gb, 3, none⟩) (Kd.R_far (p := ⟨gb, 2, none⟩) (Kd.R_far (p := ⟨gb, 1, none⟩) (Kd.R_far (p := ⟨gb, 0, none⟩) HO.out (fun _ h => h.2) _) (fun _ h => h.2) _) (fun _ h => h.2) _) (fun _ h => h.2) _) (fun _ h => h.2) _) (fun _ h => h.2)
                  have BK2 : (((((w4.setCell ⟨gb, 0, none⟩ (.int .i64 ka)).setCell ⟨gb, 1, none⟩ (.string ta)).setCell ⟨gb, 2, none⟩ (.int .i64 na)).setCell ⟨gb, 3, none⟩ (.int .i64 ca)).setCell ⟨gb, 3, none⟩ (.int .i64 (n : Int))).heap[gb]? = some (.cells #[.int .i64 ka, .string ta, .int .i64 na, .int .i64 n] 29 (0, 0)) := by
                    refine blk_put (cs := #[.int .i64 ka, .string ta, .int .i64 na, .int .i64 ca]) ?_ 3 _ rfl
                    refine blk_put (cs := #[.int .i64 ka, .string ta, .int .i64 na, .int .i64 0]) ?_ 3 _ rfl
                    refine blk_put (cs := #[.int .i64 ka, .string ta, .int .i64 0, .int .i64 0]) ?_ 2 _ rfl
                    refine blk_put (cs := #[.int .i64 ka, .string (⟨#[]⟩ : ByteArray), .int .i64 0, .int .i64 0]) ?_ 1 _ rfl
                    refine blk_put (cs := #[.int .i64 0, .string (⟨#[]⟩ : ByteArray), .int .i64 0, .int .i64 0]) ?_ 0 _ rfl
                    exact BK.out
                  clear HI HM HB HO BK z0 z1 z2 z3 y0 y1 y2 y3
                  generalize (((((w4.setCell ⟨gb, 0, none⟩ (.int .i64 ka)).setCell ⟨gb, 1, none⟩ (.string ta)).setCell ⟨gb, 2, none⟩ (.int .i64 na)).setCell ⟨gb, 3, none⟩ (.int .i64 ca)).setCell ⟨gb, 3, none⟩ (.int .i64 (n : Int))) = WW at *
                  have HI := Aside0.mk HI2
                  have HM := Aside0.mk HM2
                  have HB := Aside0.mk HB2
                  have HO := Aside0.mk HO2
                  have BK := Aside0.mk BK2
                  clear HI2 HM2 HB2 HO2 BK2
                  have l0 : WW.cell? ⟨gb, 0, none⟩ = some (.int .i64 ka) := (blk_cell BK.out 0).trans rfl
                  have l1 : WW.cell? ⟨gb, 1, none⟩ = some (.string ta) := (blk_cell BK.out 1).trans rfl
                  have l2 : WW.cell? ⟨gb, 2, none⟩ = some (.int .i64 na) := (blk_cell BK.out 2).trans rfl
                  have l3 : WW.cell? ⟨gb, 3, none⟩ = some (.int .i64 n) := (blk_cell BK.out 3).trans rfl
                  go_wp2_with (first | ((with_reducible refine gate_builtin (b := .append) (xs := #[.tmp 65, .tmp 67]) rfl ?_); at_builtin; refine Kd.R_append k29 (w0 := w) w.heap.size rfl (.tmp 65) (.tmp 67) 23 29 (.agg #[(.int .i64 0), (.string ⟨#[]⟩), (.int .i64 0), (.int .i64 0)]) 40 rfl Tryd.underlying23 info29 rfl (by decide) (by omega) (.slice Ao acc.length co) acc (⟨ka, ta, na, n⟩ : S29) [.int .i64 ka, .string ta, .int .i64 na, .int .i64 n] (fun k_ => k_ ≠ gb) (fun _ => False) rfl (by first | (go_simp; done) | (go_simp; rfl)) ?aP (fun _ hk => hk.elim) ?aF ?aO ?aB ?aS ?aL ?_; (case aP => exact k29_mkM _ _ _ (⟨ka, ta, na, n⟩ : S29)); (case aB => exact (by repeat (first | (with_reducible first | exact HB.out | apply below_alloc | apply pw_below_drewN | apply below_drew1) | exact HB.out))); (case aF => exact fun k_ hk => by have := blk_lt BK.out; omega); (case aO => (with_reducible repeat (first | apply Kd.R_alloc | apply Kd.R_drewN | apply Kd.R_drew)); exact HO.out); (case aS => exact below_size (by repeat (first | (with_reducible first | exact HB.out | apply below_alloc | apply pw_below_drewN | apply below_drew1) | exact HB.out))); (case aL => have := HL2.out; omega); intro v1 w5 ho hb hg hat; have n0_ := Aside0.mk (IsS55.grown (by repeat (first | (with_reducible first | exact HI.out | apply IsS55.alloc | apply IsS55.drewN | apply IsS55.drew | apply IsS55.set_0 | apply IsS55.set_1) | exact HI.out)) hg (IsS55.own_ne HI.out HO.out (by decide))); have n1_ := Aside0.mk (blk_grown HM.out hg (begin_ne HO.out HM.out)); have n2_ := Aside0.mk hb; have n3_ := Aside0.mk (Kd.R_mono (ok' := fun _ => True) ho (fun _ _ => trivial)); clear HI HM HB HO BK l0 l1 l2 l3; have HI := n0_; have HM := n1_; have HB := n2_; have HO := n3_; clear n0_ n1_ n2_ n3_ ho hb hg hat) | (go_at_call 37; refine (token_reader_skip.calls k1 g x' p' x2 p2 w _ HI.out HB.out AS.out).mono ?_; rintro e w6 ⟨rfl, hi, hb, hk⟩; have n0_ := Aside0.mk (KeepBut.blk hk HM.out (Ne.symm hgm) (by simp)); have n1_ := Aside0.mk (Kd.R_mono (ok' := fun _ => True) (Kd.R_keep (IsS55.apart HI.out HO.out (by decide)) hk (fun _ h => h.2)) (fun _ _ => trivial)); clear HM HB HI HO AS hk; have HM := n0_; have HO := n1_; have HB := Aside0.mk hb; have HI := Aside0.mk hi; clear n0_ n1_ hb hi))
                  go_roundg k1
                  case measure => omega
                  case rel => exact ⟨x2, _, p2, AL, HO, HI, HM, HB, ⟨by have := HL2.out; simp; omega⟩⟩
          · rw [if_neg hp0] at H; cases H
        · rw [if_neg hlt] at H
          simp only [Option.some.injEq, Prod.mk.injEq] at H
          obtain ⟨rfl, rfl, rfl⟩ := H
          have d1 : decide (p < (a0.size : Int)) = false := decide_eq_false hlt
          clear hlt
          go_wp2
          go_ret3
          exact ⟨_, rfl, HO.out, HB.out⟩
end Go.Proofs.YtngcojabofkbjaaDoor.P
namespace Go.Proofs.YtngcojabofkbjaaDoor.P
open Go.RowKit Go.Proofs.YtngcojabofkbjaaDoorW.PrintWords Go.Proofs.YtngcojabofkbjaaDoorW.PrintLast Go.Proofs.YtngcojabofkbjaaDoorW.PrintMore
set_option linter.unusedVariables false
set_option linter.unusedSimpArgs false
abbrev bl (s : ByteArray) : List UInt8 := s.data.toList
theorem bl_length (s : ByteArray) : (bl s).length = s.size := by simp [bl]
theorem bt_nat (s : ByteArray) (i : Nat) (h : i < s.size) : bt s i = (s[i].toNat : Int) := by simp [bt, h]
theorem drop_bl (s : ByteArray) (i : Nat) (h : i < s.size) : (bl s).drop i = s[i] :: (bl s).drop (i + 1) := by
  have h2 : i < (bl s).length := by rw [bl_length]; exact h
  rw [List.drop_eq_getElem_cons h2]
  rfl
theorem extract_bl (s : ByteArray) (i j : Nat) : bl (s.extract i j) = ((bl s).drop i).take (j - i) := by
  simp [bl, ByteArray.data_extract, List.extract_eq_take_drop]
theorem mk_bl (s : ByteArray) : (⟨(bl s).toArray⟩ : ByteArray) = s := by simp [bl]
theorem toList_bl (s : ByteArray) : s.toList = bl s := ByteArray.toList_eq s
theorem eq_of_bl {a b : ByteArray} (h : bl a = bl b) : a = b := by rw [← mk_bl a, ← mk_bl b, h]
theorem wrap_small (n : Int) (h0 : -1000000000000000000 ≤ n) (h1 : n ≤ 1000000000000000000) : wrap64 n = n := by unfold wrap64; omega
theorem index_mem (l : List UInt8) (c : UInt8) : Lib.indexByte l c = if c ∈ l then ((l.takeWhile (· != c)).length : Int) else -1 := by
  induction l with
  | nil => simp [Lib.indexByte]
  | cons b l ih =>
    unfold Lib.indexByte
    by_cases hb : b = c
    · subst hb; simp
    · have hb2 : c ≠ b := fun e => hb e.symm
      simp only [beq_iff_eq, hb, if_false, ih, List.mem_cons, hb2, false_or]
      by_cases hm : c ∈ l
      · simp only [hm, if_true, List.takeWhile_cons, bne_iff_ne, ne_eq, hb, not_false_eq_true, if_true]
        rw [if_neg (by omega)]
        simp
      · simp [hm]
theorem index_ge (l : List UInt8) (c : UInt8) : 0 ≤ Lib.indexByte l c ↔ c ∈ l := by
  rw [index_mem]; split <;> simp_all
theorem index_at (l : List UInt8) (s : ByteArray) (i : Nat) (h : i < s.size) : strings_IndexByte.f ⟨l.toArray⟩ (bt s i) = some (Lib.indexByte l s[i]) := by
  unfold strings_IndexByte.f
  rw [bt_nat s i h]
  simp
def blankB (c : UInt8) : Bool := c == 32 || c == 9 || c == 10 || c == 13
def skipN : Bool → List UInt8 → Nat
  | _, [] => 0
  | true, b :: r => 1 + skipN (b != 10) r
  | false, b :: r => if blankB b then 1 + skipN false r else if b = 47 ∧ r.head? = some 47 then 1 + skipN true r else 0
theorem skipN_le (c : Bool) (l : List UInt8) : skipN c l ≤ l.length := by
  induction l generalizing c with
  | nil => simp [skipN]
  | cons b r ih =>
    cases c
    · unfold skipN
      split
      · have := ih false; simp; omega
      · split
        · have := ih true; simp; omega
        · simp
    · unfold skipN; have := ih (b != 10); simp only [List.length_cons]; omega
theorem skipN_line (l : List UInt8) : skipN true l = (l.takeWhile (· != 10)).length + skipN false (l.drop (l.takeWhile (· != 10)).length) := by
  induction l with
  | nil => simp [skipN]
  | cons b r ih =>
    by_cases hb : b = 10
    · subst hb; simp [skipN, blankB]
    · have : (b != 10) = true := by simp [hb]
      rw [skipN, this, ih]
      simp [List.takeWhile_cons, this]
      omega
theorem takeWhile_all {α : Type} (p : α → Bool) (l : List α) (h : ∀ x ∈ l, p x = true) : l.takeWhile p = l := by
  induction l with
  | nil => rfl
  | cons a r ih => rw [List.takeWhile_cons, if_pos (h a (by simp)), ih (fun x hx => h x (by simp [hx]))]
theorem cut_line (a : ByteArray) : (cutAt a 10).1.size = ((bl a).takeWhile (· != 10)).length := by
  unfold cutAt
  rw [show Lib.indexByte a.data.toList 10 = Lib.indexByte (bl a) 10 from rfl, index_mem]
  by_cases hm : (10 : UInt8) ∈ bl a
  · rw [if_pos hm, if_neg (by omega)]
    have : ((bl a).takeWhile (· != 10)).length ≤ (bl a).length := (List.takeWhile_sublist _).length_le
    rw [bl_length] at this
    simp only [Int.toNat_natCast, ByteArray.size_extract]
    omega
  · rw [if_neg hm, if_pos (by omega)]
    have : (bl a).takeWhile (· != 10) = bl a := by
      apply takeWhile_all
      intro x hx
      simp only [bne_iff_ne, ne_eq]
      rintro rfl
      exact hm hx
    rw [this, bl_length]
theorem rest_eq (s : ByteArray) (i : Nat) (h : i ≤ s.size) : token_reader_rest.f s i = some (s.extract i s.size, s, (i : Int)) := by
  unfold token_reader_rest.f
  rw [if_pos (by omega), if_pos (by omega)]
  simp
theorem rest_bl (s : ByteArray) (i : Nat) (h : i ≤ s.size) : bl (s.extract i s.size) = (bl s).drop i := by
  rw [extract_bl, List.take_of_length_le]
  simp [bl_length]
theorem prefix_eq (a : ByteArray) : strings_HasPrefix.f a ⟨#[47, 47]⟩ = some (decide ((bl a).take 2 = [47, 47])) := by
  have e2 : (⟨#[47, 47]⟩ : ByteArray).size = 2 := rfl
  unfold strings_HasPrefix.f stringslite_HasPrefix.f
  rw [e2]
  by_cases h : (a.size : Int) ≥ ((2 : Nat) : Int)
  · rw [if_pos h, if_pos (by omega), if_pos (by omega)]
    simp only [Option.bind_some, toList_bl, extract_bl]
    congr 1
    simp [bl]
    rw [Bool.eq_iff_iff]; simp
  · rw [if_neg h]
    simp only [Option.bind_some]
    congr 1
    symm
    rw [decide_eq_false_iff_not]
    intro e
    have := congrArg List.length e
    rw [List.length_take, bl_length] at this
    simp at this
    omega
theorem skip_l0 (s : ByteArray) (hs : s.size ≤ 1000000000000) : ∀ (d k i : Nat), i ≤ s.size → s.size - i ≤ d → d < k → token_reader_skip.l0 k s i = some (s, ((i + skipN false ((bl s).drop i) : Nat) : Int)) := by
  intro d
  induction d with
  | zero =>
    intro k i hi hd hk
    obtain ⟨k, rfl⟩ : ∃ m, k = m + 1 := ⟨k - 1, by omega⟩
    obtain rfl : i = s.size := by omega
    simp only [token_reader_skip.l0]
    rw [if_neg (by omega), List.drop_of_length_le (by rw [bl_length]; omega)]
    simp [skipN]
  | succ d ih =>
    intro k i hi hd hk
    obtain ⟨k, rfl⟩ : ∃ m, k = m + 1 := ⟨k - 1, by omega⟩
    by_cases hlt : i < s.size
    · simp only [token_reader_skip.l0]
      rw [if_pos (by omega), if_pos (by omega), index_at _ s i hlt]
      simp only [Option.bind_some, ge_iff_le, index_ge]
      rw [drop_bl s i hlt]
      by_cases hb : blankB s[i] = true
      · have hm : s[i] ∈ ([32, 9, 10, 13] : List UInt8) := by unfold blankB at hb; simpa [or_assoc] using hb
        rw [if_pos hm, wrap_small _ (by omega) (by omega), show ((i : Int) + 1) = ((i + 1 : Nat) : Int) from by omega, ih k (i + 1) (by omega) (by omega) (by omega)]
        simp only [skipN, hb, if_true]
        congr 2
        omega
      · have hm : ¬ s[i] ∈ ([32, 9, 10, 13] : List UInt8) := by unfold blankB at hb; simpa [or_assoc] using hb
        rw [if_neg hm, rest_eq s i hi]
        simp only [Option.bind_some, prefix_eq, rest_bl s i hi, rest_eq s i hi]
        rw [drop_bl s i hlt]
        by_cases hc : s[i] = 47 ∧ ((bl s).drop (i + 1)).head? = some 47
        · obtain ⟨h1, h2⟩ := hc
          obtain ⟨r, hr⟩ : ∃ r, (bl s).drop (i + 1) = 47 :: r := by
            cases hl : (bl s).drop (i + 1) with
            | nil => rw [hl] at h2; cases h2
            | cons a r => rw [hl] at h2; simp at h2; exact ⟨r, by rw [h2]⟩
          have hcut : strings_Cut.f (s.extract i s.size) (⟨#[10]⟩ : ByteArray) = some (cutAt (s.extract i s.size) 10) := by
            unfold strings_Cut.f
            rw [if_pos (by simp only [ByteArray.size_extract]; omega)]
          have hln : (cutAt (s.extract i s.size) 10).1.size = 1 + ((47 :: r : List UInt8).takeWhile (· != 10)).length := by
            rw [cut_line, rest_bl s i hi, drop_bl s i hlt, h1, hr]
            simp [List.takeWhile_cons]
            omega
          have hle : ((47 :: r : List UInt8).takeWhile (· != 10)).length ≤ s.size - i - 1 := by
            have a1 := (List.takeWhile_sublist (l := (47 :: r : List UInt8)) (· != 10)).length_le
            have a2 := congrArg List.length hr
            rw [List.length_drop, bl_length] at a2
            omega
          rw [h1, hr]
          simp only [List.take_succ_cons, List.take_zero, decide_true, if_true, hcut, Option.bind_some, hln]
          rw [wrap_small _ (by omega) (by omega), show ((i : Int) + ((1 + ((47 :: r : List UInt8).takeWhile (· != 10)).length : Nat) : Int)) = ((i + (1 + ((47 :: r : List UInt8).takeWhile (· != 10)).length) : Nat) : Int) from by omega, ih k _ (by omega) (by omega) (by omega)]
          have e : skipN false (47 :: 47 :: r) = 1 + skipN true (47 :: r) := by simp [skipN, blankB]
          rw [e, skipN_line]
          have e2 : (bl s).drop (i + (1 + ((47 :: r : List UInt8).takeWhile (· != 10)).length)) = (47 :: r : List UInt8).drop ((47 :: r : List UInt8).takeWhile (· != 10)).length := by
            rw [← hr, List.drop_drop]
            congr 1
            omega
          rw [e2]
          congr 2
          omega
        · have hn : ¬ (List.take 2 (s[i] :: (bl s).drop (i + 1)) = [47, 47]) := by
            intro e
            apply hc
            cases hl : (bl s).drop (i + 1) with
            | nil => rw [hl] at e; simp at e
            | cons a r => rw [hl] at e; simp at e; exact ⟨e.1, by simp [e.2]⟩
          simp only [hn, decide_false]
          rw [if_neg (by simp)]
          unfold skipN
          rw [if_neg hb, if_neg hc]
          simp
    · obtain rfl : i = s.size := by omega
      simp only [token_reader_skip.l0]
      rw [if_neg (by omega), List.drop_of_length_le (by rw [bl_length]; omega)]
      simp [skipN]
theorem skip_eq (s : ByteArray) (hs : s.size ≤ 1000000000000) (k i : Nat) (hi : i ≤ s.size) (hk : s.size - i < k) : token_reader_skip.f k s i = some (s, ((i + skipN false ((bl s).drop i) : Nat) : Int)) :=
  skip_l0 s hs (s.size - i) k i hi (Nat.le_refl _) hk
theorem bt_get (a : ByteArray) (j : Nat) (c : UInt8) (h : (bl a)[j]? = some c) : bt a j = (c.toNat : Int) := by
  obtain ⟨hj, e⟩ := List.getElem?_eq_some_iff.mp h
  rw [bl_length] at hj
  rw [bt_nat a j hj, ← e]
  rfl
theorem stopAt_eq (p : Int → Bool) (s : ByteArray) : ∀ n i, i ≤ s.size → s.size - i ≤ n → stopAt p s n i = i + (((bl s).drop i).takeWhile (fun c => p (c.toNat : Int))).length := by
  intro n
  induction n with
  | zero =>
    intro i hi hn
    obtain rfl : i = s.size := by omega
    rw [stopAt, List.drop_of_length_le (by rw [bl_length]; omega)]
    simp
  | succ n ih =>
    intro i hi hn
    unfold stopAt
    by_cases hlt : i < s.size
    · rw [if_pos hlt, drop_bl s i hlt, bt_nat s i hlt, List.takeWhile_cons]
      by_cases hp : p (s[i].toNat : Int) = true
      · rw [if_pos hp, if_pos hp, ih (i + 1) (by omega) (by omega)]
        simp; omega
      · rw [if_neg hp, if_neg hp]; simp
    · rw [if_neg hlt, List.drop_of_length_le (by rw [bl_length]; omega)]
      simp
def nameU (c : UInt8) : Bool := nameB (c.toNat : Int)
def numU (c : UInt8) : Bool := numB (c.toNat : Int)
def runN (p : UInt8 → Bool) : List UInt8 → Nat
  | [] => 0
  | _ :: r => 1 + (r.takeWhile p).length
theorem runN_le (p : UInt8 → Bool) (l : List UInt8) : runN p l ≤ l.length := by
  cases l with
  | nil => simp [runN]
  | cons a r => have := (List.takeWhile_sublist (l := r) p).length_le; simp only [runN, List.length_cons]; omega
theorem while_text (p : Int → Bool) (s : ByteArray) (i : Nat) (hi : i < s.size) :
    stopAt p s s.size (i + 1) = i + runN (fun c => p (c.toNat : Int)) ((bl s).drop i) ∧ s.extract i (stopAt p s s.size (i + 1)) = ⟨(((bl s).drop i).take (runN (fun c => p (c.toNat : Int)) ((bl s).drop i))).toArray⟩ := by
  have e : stopAt p s s.size (i + 1) = i + runN (fun c => p (c.toNat : Int)) ((bl s).drop i) := by
    rw [stopAt_eq p s s.size (i + 1) (by omega) (by omega), drop_bl s i hi]
    simp only [runN]; omega
  refine ⟨e, ?_⟩
  apply eq_of_bl
  rw [e, extract_bl]
  simp [bl]
theorem name_eq (s : ByteArray) (hs : s.size ≤ 1000000000000) (i : Nat) (hi : i < s.size) :
    token_reader_name.f s i = some (0, ⟨(((bl s).drop i).take (runN nameU ((bl s).drop i))).toArray⟩, 0, 0, true, s, ((i + runN nameU ((bl s).drop i) : Nat) : Int)) := by
  obtain ⟨h1, h2⟩ := while_text nameB s i hi
  unfold token_reader_name.f token_reader_while.f
  rw [if_pos ⟨by omega, by omega, by omega⟩, if_pos rfl, Int.toNat_natCast]
  simp only [Option.bind_some, h2]
  rw [h1]
  rfl
theorem num_eq (s : ByteArray) (hs : s.size ≤ 1000000000000) (i : Nat) (hi : i < s.size) :
    token_reader_num.f s i = some (1, ⟨(((bl s).drop i).take (runN numU ((bl s).drop i))).toArray⟩, numV (((bl s).drop i).take (runN numU ((bl s).drop i))), 0, numOk (((bl s).drop i).take (runN numU ((bl s).drop i))), s, ((i + runN numU ((bl s).drop i) : Nat) : Int)) := by
  obtain ⟨h1, h2⟩ := while_text numB s i hi
  unfold token_reader_num.f token_reader_while.f
  rw [if_pos ⟨by omega, by omega, by omega⟩, if_neg (by decide), if_pos rfl, Int.toNat_natCast]
  simp only [Option.bind_some, h2]
  rw [h1]
  rfl
theorem one_eq (s : ByteArray) (hs : s.size ≤ 1000000000000) (i : Nat) (hi : i < s.size) :
    token_reader_one.f s i = some (3, ⟨#[s[i]]⟩, 0, 0, true, s, ((i + 1 : Nat) : Int)) := by
  unfold token_reader_one.f
  rw [if_pos ⟨by omega, by omega, by omega⟩, Int.toNat_natCast]
  have e : s.extract i (i + 1) = ⟨#[s[i]]⟩ := by
    apply eq_of_bl
    rw [extract_bl, drop_bl s i hi, show i + 1 - i = 1 from by omega]
    simp [bl]
  rw [e]
  simp
def hexesL : List UInt8 := [48, 49, 50, 51, 52, 53, 54, 55, 56, 57, 97, 98, 99, 100, 101, 102]
def hexI (c : UInt8) : Int := Lib.indexByte hexesL c
theorem hexI_range (c : UInt8) : -1 ≤ hexI c ∧ hexI c ≤ 15 := by
  have := indexByte_range hexesL c
  unfold hexI
  have e : hexesL.length = 16 := rfl
  rw [e] at this
  omega
theorem hex_bits : ∀ a b : Fin 16, (Go.bits .or .i64 (wrap64 ((a.val : Int) * 16)) (Go.bits .and .i64 (b.val : Int) 15)) % 256 = (a.val : Int) * 16 + b.val := by decide +kernel
def markL : List UInt8 → Option (UInt8 × Nat)
  | [] => none
  | d :: r => if d = 34 then some (34, 1) else if d = 92 then some (92, 1) else if d = 110 then some (10, 1)
    else if d = 120 then match r with
      | a :: b :: _ => if 0 ≤ hexI a ∧ 0 ≤ hexI b then some (UInt8.ofNat ((hexI a).toNat * 16 + (hexI b).toNat), 3) else none
      | _ => none
    else none
theorem mark_eq (s : ByteArray) (hs : s.size ≤ 1000000000000) (k i : Nat) (hi : i ≤ s.size) (hk : 0 < k) :
    (∀ m n, markL ((bl s).drop i) = some (m, n) → token_reader_mark.f k s i = some ((m.toNat : Int), true, s, ((i + n : Nat) : Int))) ∧
    (markL ((bl s).drop i) = none → ∃ v p, token_reader_mark.f k s i = some (v, false, s, p)) := by
  obtain ⟨k, rfl⟩ : ∃ m, k = m + 1 := ⟨k - 1, by omega⟩
  unfold token_reader_mark.f
  rw [rest_eq s i hi]
  have hb := rest_bl s i hi
  have hz : (s.extract i s.size).size = ((bl s).drop i).length := by rw [← bl_length, hb]
  simp only [Option.bind_some, toList_bl, hb]
  generalize s.extract i s.size = x at *
  cases hl : (bl s).drop i with
  | nil => simp [markL]
  | cons d r =>
    rw [hl] at hb hz
    have hx : 0 < (x.size : Int) := by rw [hz]; simp
    have b0 : bt x 0 = (d.toNat : Int) := bt_get x 0 d (by rw [hb]; rfl)
    rw [if_neg (by simp), if_pos hx]
    have hI : strings_IndexByte.f (⟨#[34, 92, 110]⟩ : ByteArray) (bt x 0) = some (Lib.indexByte [34, 92, 110] d) := by
      unfold strings_IndexByte.f; rw [b0]; simp
    rw [hI]
    simp only [Option.bind_some]
    by_cases d34 : d = 34
    · subst d34
      have e : Lib.indexByte [34, 92, 110] 34 = 0 := by decide
      rw [e, wrap_small _ (by omega) (by omega)]
      have e2 : bt (⟨#[34, 92, 10]⟩ : ByteArray) 0 = 34 := by decide
      simp [markL, e2]
    · by_cases d92 : d = 92
      · subst d92
        have e : Lib.indexByte [34, 92, 110] 92 = 1 := by decide
        rw [e, wrap_small _ (by omega) (by omega)]
        have e2 : bt (⟨#[34, 92, 10]⟩ : ByteArray) 1 = 92 := by decide
        simp [markL, e2]
      · by_cases d110 : d = 110
        · subst d110
          have e : Lib.indexByte [34, 92, 110] 110 = 2 := by decide
          rw [e, wrap_small _ (by omega) (by omega)]
          have e2 : bt (⟨#[34, 92, 10]⟩ : ByteArray) 2 = 10 := by decide
          simp [markL, e2]
        · have e : ¬ (Lib.indexByte [34, 92, 110] d ≥ 0) := by rw [ge_iff_le, index_ge]; simp [d34, d92, d110]
          rw [if_neg e]
          by_cases d120 : d = 120
          · subst d120
            have b0' : (bt x 0 != 120) = false := by rw [b0]; decide
            rw [b0']
            match r, hl, hb, hz with
            | [], hl, hb, hz =>
              rw [if_pos (by rw [hz]; simp)]
              simp [markL, token_reader_mark.j0]
            | [a], hl, hb, hz =>
              rw [if_pos (by rw [hz]; simp)]
              simp [markL, token_reader_mark.j0]
            | a :: b :: r', hl, hb, hz =>
              rw [if_neg (by rw [hz]; simp; omega)]
              have b1 : bt x 1 = (a.toNat : Int) := bt_get x 1 a (by rw [hb]; rfl)
              have b2 : bt x 2 = (b.toNat : Int) := bt_get x 2 b (by rw [hb]; rfl)
              have h1 : strings_IndexByte.f (⟨#[48, 49, 50, 51, 52, 53, 54, 55, 56, 57, 97, 98, 99, 100, 101, 102]⟩ : ByteArray) (bt x 1) = some (hexI a) := by
                unfold strings_IndexByte.f; rw [b1]; simp [hexI, hexesL]
              have h2 : strings_IndexByte.f (⟨#[48, 49, 50, 51, 52, 53, 54, 55, 56, 57, 97, 98, 99, 100, 101, 102]⟩ : ByteArray) (bt x 2) = some (hexI b) := by
                unfold strings_IndexByte.f; rw [b2]; simp [hexI, hexesL]
              simp only [token_reader_mark.j0, h1, h2, Option.bind_some]
              rw [if_neg (by simp), if_pos (by rw [hz]; simp; omega), if_pos (by rw [hz]; simp; omega), wrap_small ((i : Int) + 3) (by omega) (by omega)]
              have ra := hexI_range a
              have rb := hexI_range b
              by_cases ha : 0 ≤ hexI a
              · rw [if_pos ha]
                by_cases hb2 : 0 ≤ hexI b
                · have em : markL (120 :: a :: b :: r') = some (UInt8.ofNat ((hexI a).toNat * 16 + (hexI b).toNat), 3) := by simp [markL, ha, hb2]
                  rw [em]
                  have hv := hex_bits ⟨(hexI a).toNat, by omega⟩ ⟨(hexI b).toNat, by omega⟩
                  simp only [Int.toNat_of_nonneg ha, Int.toNat_of_nonneg hb2] at hv
                  rw [hv]
                  refine ⟨fun m n hmn => ?_, fun h => by cases h⟩
                  simp only [Option.some.injEq, Prod.mk.injEq] at hmn
                  obtain ⟨rfl, rfl⟩ := hmn
                  have e3 : ((UInt8.ofNat ((hexI a).toNat * 16 + (hexI b).toNat)).toNat : Int) = hexI a * 16 + hexI b := by
                    rw [UInt8.toNat_ofNat', Nat.mod_eq_of_lt (by omega)]; omega
                  rw [e3]
                  simp [hb2]
                · have em : markL (120 :: a :: b :: r') = none := by simp [markL, hb2]
                  rw [em]
                  refine ⟨fun m n h => (by cases h), fun _ => ⟨Go.bits .or .i64 (wrap64 (hexI a * 16)) (Go.bits .and .i64 (hexI b) 15) % 256, (i : Int) + 3, ?_⟩⟩
                  rw [show decide (hexI b ≥ 0) = false from decide_eq_false (by omega)]
              · rw [if_neg ha]
                have em : markL (120 :: a :: b :: r') = none := by simp [markL, ha]
                rw [em]
                exact ⟨fun m n h => (by cases h), fun _ => ⟨_, _, rfl⟩⟩
          · have em : markL (d :: r) = none := by simp [markL, d34, d92, d110, d120]
            rw [em]
            have b0' : (bt x 0 != 120) = true := by
              rw [b0, bne_iff_ne]
              intro e
              apply d120
              rw [← UInt8.toNat_inj]
              have : d.toNat = 120 := by omega
              rw [this]; rfl
            rw [b0']
            refine ⟨fun m n h => (by cases h), fun _ => ⟨0, i, ?_⟩⟩
            split
            · simp [token_reader_mark.j0]
            · simp [token_reader_mark.j0]
def strL : Nat → List UInt8 → Option (List UInt8 × Nat)
  | 0, _ => none
  | _ + 1, [] => none
  | f + 1, c :: r => if c = 34 then some ([], 1) else if c = 92 then (match markL r with
      | none => none
      | some (m, n) => (strL f (r.drop n)).map fun x => (m :: x.1, n + 1 + x.2))
    else if c < 32 then none else if c = 127 then none else (strL f r).map fun x => (c :: x.1, x.2 + 1)
theorem markL_le (l : List UInt8) (m : UInt8) (n : Nat) (h : markL l = some (m, n)) : 1 ≤ n ∧ n ≤ l.length := by
  cases l with
  | nil => cases h
  | cons d r =>
    simp only [markL] at h
    by_cases h1 : d = 34
    · rw [if_pos h1] at h; simp only [Option.some.injEq, Prod.mk.injEq] at h; obtain ⟨_, rfl⟩ := h; simp
    · rw [if_neg h1] at h
      by_cases h2 : d = 92
      · rw [if_pos h2] at h; simp only [Option.some.injEq, Prod.mk.injEq] at h; obtain ⟨_, rfl⟩ := h; simp
      · rw [if_neg h2] at h
        by_cases h3 : d = 110
        · rw [if_pos h3] at h; simp only [Option.some.injEq, Prod.mk.injEq] at h; obtain ⟨_, rfl⟩ := h; simp
        · rw [if_neg h3] at h
          by_cases h4 : d = 120
          · rw [if_pos h4] at h
            match r, h with
            | [], h => cases h
            | [a], h => cases h
            | a :: b :: r', h =>
              simp only at h
              split at h
              · simp only [Option.some.injEq, Prod.mk.injEq] at h; obtain ⟨_, rfl⟩ := h; simp
              · cases h
          · rw [if_neg h4] at h; cases h
theorem strL_le : ∀ (f : Nat) (l t : List UInt8) (n : Nat), strL f l = some (t, n) → 1 ≤ n ∧ n ≤ l.length ∧ t.length + 1 ≤ n := by
  intro f
  induction f with
  | zero => intro l t n h; simp [strL] at h
  | succ f ih =>
    intro l t n h
    cases l with
    | nil => simp [strL] at h
    | cons c r =>
      unfold strL at h
      split at h
      · simp only [Option.some.injEq, Prod.mk.injEq] at h; obtain ⟨rfl, rfl⟩ := h; simp
      · split at h
        · split at h
          · cases h
          · rename_i m j hm
            obtain ⟨h1, h2⟩ := markL_le r m j hm
            obtain ⟨⟨t', n'⟩, h3, h4⟩ := Option.map_eq_some_iff.mp h
            obtain ⟨g1, g2, g3⟩ := ih _ _ _ h3
            simp only [Prod.mk.injEq] at h4
            obtain ⟨rfl, rfl⟩ := h4
            rw [List.length_drop] at g2
            simp only [List.length_cons]
            omega
        · split at h
          · cases h
          · split at h
            · cases h
            · obtain ⟨⟨t', n'⟩, h3, h4⟩ := Option.map_eq_some_iff.mp h
              obtain ⟨g1, g2, g3⟩ := ih _ _ _ h3
              simp only [Prod.mk.injEq] at h4
              obtain ⟨rfl, rfl⟩ := h4
              simp only [List.length_cons]
              omega
def numsOf (l : List UInt8) : List Int := l.map fun c => (c.toNat : Int)
theorem strOf_nums (l : List UInt8) : strOfNums (numsOf l) = ⟨l.toArray⟩ := by
  unfold strOfNums numsOf
  congr 2
  rw [List.map_map]
  conv => rhs; rw [← List.map_id l]
  apply List.map_congr_left
  intro c _
  simp
theorem str_l0 (s : ByteArray) (hs : s.size ≤ 1000000000000) : ∀ (d k i : Nat) (acc : List UInt8) (f : Nat), i ≤ s.size → s.size - i ≤ d → d < k → d < f → acc.length ≤ i →
    (∀ t n, strL f ((bl s).drop i) = some (t, n) → token_reader_str.l0 k (numsOf acc) s i = some (2, ⟨(acc ++ t).toArray⟩, 0, 0, true, s, ((i + n : Nat) : Int))) ∧
    (strL f ((bl s).drop i) = none → ∃ p, token_reader_str.l0 k (numsOf acc) s i = some (0, ⟨#[]⟩, 0, 0, false, s, p)) := by
  intro d
  induction d with
  | zero =>
    intro k i acc f hi hd hk hf ha
    obtain ⟨k, rfl⟩ : ∃ m, k = m + 1 := ⟨k - 1, by omega⟩
    obtain ⟨f, rfl⟩ : ∃ m, f = m + 1 := ⟨f - 1, by omega⟩
    obtain rfl : i = s.size := by omega
    simp only [token_reader_str.l0]
    rw [if_neg (by omega), List.drop_of_length_le (by rw [bl_length]; omega)]
    simp [strL]
  | succ d ih =>
    intro k i acc f hi hd hk hf ha
    obtain ⟨k, rfl⟩ : ∃ m, k = m + 1 := ⟨k - 1, by omega⟩
    obtain ⟨f, rfl⟩ : ∃ m, f = m + 1 := ⟨f - 1, by omega⟩
    by_cases hlt : i < s.size
    · have hw : wrap64 ((i : Int) + 1) = ((i + 1 : Nat) : Int) := by rw [wrap_small _ (by omega) (by omega)]; omega
      have hal : (numsOf acc).length < 140737488355328 := by unfold numsOf; rw [List.length_map]; omega
      simp only [token_reader_str.l0]
      rw [if_pos (by omega), if_pos (by omega), drop_bl s i hlt, bt_nat s i hlt, hw]
      generalize hc : s[i] = c
      have e34 : ((c.toNat : Int) = 34) ↔ c = 34 := by rw [← UInt8.toNat_inj]; show _ ↔ c.toNat = 34; omega
      have e92 : ((c.toNat : Int) = 92) ↔ c = 92 := by rw [← UInt8.toNat_inj]; show _ ↔ c.toNat = 92; omega
      have e127 : ((c.toNat : Int) = 127) ↔ c = 127 := by rw [← UInt8.toNat_inj]; show _ ↔ c.toNat = 127; omega
      have e32 : ((c.toNat : Int) < 32) ↔ c < 32 := by rw [UInt8.lt_iff_toNat_lt]; show _ ↔ c.toNat < 32; omega
      simp only [e34, e92, e127, e32]
      unfold strL
      by_cases h34 : c = 34
      · rw [if_pos h34, if_pos h34]
        refine ⟨fun t n h => ?_, fun h => by cases h⟩
        simp only [Option.some.injEq, Prod.mk.injEq] at h
        obtain ⟨rfl, rfl⟩ := h
        rw [strOf_nums, List.append_nil]
      · rw [if_neg h34, if_neg h34]
        by_cases h92 : c = 92
        · rw [if_pos h92, if_pos h92]
          obtain ⟨m1, m2⟩ := mark_eq s hs k (i + 1) (by omega) (by omega)
          cases hm : markL ((bl s).drop (i + 1)) with
          | none =>
            obtain ⟨v, p, hv⟩ := m2 hm
            rw [hv]
            exact ⟨fun t n h => (by cases h), fun _ => ⟨p, by simp⟩⟩
          | some x =>
            obtain ⟨m, n⟩ := x
            rw [m1 m n hm]
            simp only [Option.bind_some, if_true]
            rw [if_pos hal]
            obtain ⟨h1, h2⟩ := markL_le _ m n hm
            rw [List.length_drop, bl_length] at h2
            have hacc : numsOf acc ++ [(m.toNat : Int)] = numsOf (acc ++ [m]) := by simp [numsOf]
            rw [hacc]
            obtain ⟨g1, g2⟩ := ih k (i + 1 + n) (acc ++ [m]) f (by omega) (by omega) (by omega) (by omega) (by simp; omega)
            rw [List.drop_drop]
            constructor
            · intro t n' h
              obtain ⟨⟨t', n2⟩, h3, h4⟩ := Option.map_eq_some_iff.mp h
              simp only [Prod.mk.injEq] at h4
              obtain ⟨rfl, rfl⟩ := h4
              rw [g1 t' n2 h3, show i + 1 + n + n2 = i + (n + 1 + n2) from by omega]
              simp only [List.append_assoc, List.singleton_append]
            · intro h
              exact g2 (Option.map_eq_none_iff.mp h)
        · rw [if_neg h92, if_neg h92]
          by_cases h32 : c < 32
          · rw [if_pos h32, if_pos h32]
            exact ⟨fun t n h => (by cases h), fun _ => ⟨_, rfl⟩⟩
          · rw [if_neg h32, if_neg h32]
            by_cases h127 : c = 127
            · rw [if_pos h127, if_pos h127]
              exact ⟨fun t n h => (by cases h), fun _ => ⟨_, rfl⟩⟩
            · rw [if_neg h127, if_neg h127, if_pos hal]
              have hacc : numsOf acc ++ [(c.toNat : Int)] = numsOf (acc ++ [c]) := by simp [numsOf]
              rw [hacc]
              obtain ⟨g1, g2⟩ := ih k (i + 1) (acc ++ [c]) f (by omega) (by omega) (by omega) (by omega) (by simp; omega)
              constructor
              · intro t n' h
                obtain ⟨⟨t', n2⟩, h3, h4⟩ := Option.map_eq_some_iff.mp h
                simp only [Prod.mk.injEq] at h4
                obtain ⟨rfl, rfl⟩ := h4
                rw [g1 t' n2 h3, show i + 1 + n2 = i + (n2 + 1) from by omega]
                simp only [List.append_assoc, List.singleton_append]
              · intro h
                exact g2 (Option.map_eq_none_iff.mp h)
    · obtain rfl : i = s.size := by omega
      simp only [token_reader_str.l0]
      rw [if_neg (by omega), List.drop_of_length_le (by rw [bl_length]; omega)]
      simp [strL]
def lex1 : List UInt8 → Option (Int × List UInt8 × Int × Nat)
  | [] => none
  | b :: r => if ofK (b.toNat : Int) = 4 then none
    else if ofK (b.toNat : Int) = 0 then some (0, (b :: r).take (runN nameU (b :: r)), 0, runN nameU (b :: r))
    else if ofK (b.toNat : Int) = 1 then (if numOk ((b :: r).take (runN numU (b :: r))) = true then some (1, (b :: r).take (runN numU (b :: r)), numV ((b :: r).take (runN numU (b :: r))), runN numU (b :: r)) else none)
    else if ofK (b.toNat : Int) = 2 then (strL (r.length + 1) r).map fun x => (2, x.1, 0, x.2 + 1)
    else some (3, [b], 0, 1)
theorem lex1_cons (b : UInt8) (r : List UInt8) : lex1 (b :: r) = if ofK (b.toNat : Int) = 4 then none
    else if ofK (b.toNat : Int) = 0 then some (0, (b :: r).take (runN nameU (b :: r)), 0, runN nameU (b :: r))
    else if ofK (b.toNat : Int) = 1 then (if numOk ((b :: r).take (runN numU (b :: r))) = true then some (1, (b :: r).take (runN numU (b :: r)), numV ((b :: r).take (runN numU (b :: r))), runN numU (b :: r)) else none)
    else if ofK (b.toNat : Int) = 2 then (strL (r.length + 1) r).map fun x => (2, x.1, 0, x.2 + 1)
    else some (3, [b], 0, 1) := rfl
theorem lex1_le (l : List UInt8) (kd : Int) (t : List UInt8) (v : Int) (n : Nat) (h : lex1 l = some (kd, t, v, n)) : 1 ≤ n ∧ n ≤ l.length := by
  cases l with
  | nil => cases h
  | cons b r =>
    have hr1 : 1 ≤ runN nameU (b :: r) := by simp [runN]
    have hr2 : 1 ≤ runN numU (b :: r) := by simp [runN]
    have hr3 := runN_le nameU (b :: r)
    have hr4 := runN_le numU (b :: r)
    rw [lex1_cons] at h
    split at h
    · cases h
    · split at h
      · simp only [Option.some.injEq, Prod.mk.injEq] at h; obtain ⟨_, _, _, rfl⟩ := h; exact ⟨hr1, hr3⟩
      · split at h
        · split at h
          · simp only [Option.some.injEq, Prod.mk.injEq] at h; obtain ⟨_, _, _, rfl⟩ := h; exact ⟨hr2, hr4⟩
          · cases h
        · split at h
          · obtain ⟨⟨t', n'⟩, h3, h4⟩ := Option.map_eq_some_iff.mp h
            simp only [Prod.mk.injEq] at h4
            obtain ⟨_, _, _, rfl⟩ := h4
            have := strL_le _ _ _ _ h3
            simp only [List.length_cons]; omega
          · simp only [Option.some.injEq, Prod.mk.injEq] at h; obtain ⟨_, _, _, rfl⟩ := h; simp
theorem tokOne_eq (s : ByteArray) (hs : s.size ≤ 1000000000000) (k i : Nat) (hi : i < s.size) (hk : s.size - i < k) :
    (∀ kd t v n, lex1 ((bl s).drop i) = some (kd, t, v, n) → ¬ ofK (bt s i) = 4 ∧ tokOne k (ofK (bt s i)) s i = some (kd, ⟨t.toArray⟩, v, 0, true, s, ((i + n : Nat) : Int))) ∧
    (lex1 ((bl s).drop i) = none → ofK (bt s i) = 4 ∨ ∃ a b c d p, tokOne k (ofK (bt s i)) s i = some (a, b, c, d, false, s, p)) := by
  have hn := name_eq s hs i hi
  have hu := num_eq s hs i hi
  have ho := one_eq s hs i hi
  have hw : wrap64 ((i : Int) + 1) = ((i + 1 : Nat) : Int) := by rw [wrap_small _ (by omega) (by omega)]; omega
  have hst : token_reader_str.f k s i = token_reader_str.l0 k (numsOf []) s ((i + 1 : Nat) : Int) := by unfold token_reader_str.f; rw [hw]; rfl
  have hl := str_l0 s hs (s.size - (i + 1)) k (i + 1) [] (((bl s).drop (i + 1)).length + 1) (by omega) (by omega) (by omega) (by rw [List.length_drop, bl_length]; omega) (by simp)
  rw [bt_nat s i hi]
  rw [drop_bl s i hi] at *
  have hq := ofK_range (s[i].toNat : Int)
  rw [lex1_cons]
  unfold tokOne
  by_cases h4 : ofK (s[i].toNat : Int) = 4
  · rw [if_pos h4]; exact ⟨fun _ _ _ _ h => (by cases h), fun _ => .inl h4⟩
  · rw [if_neg h4]
    by_cases h0 : ofK (s[i].toNat : Int) = 0
    · rw [if_pos h0, if_pos h0]
      refine ⟨fun kd t v n h => ?_, fun h => (by cases h)⟩
      simp only [Option.some.injEq, Prod.mk.injEq] at h
      obtain ⟨rfl, rfl, rfl, rfl⟩ := h
      exact ⟨h4, hn⟩
    · rw [if_neg h0, if_neg h0]
      by_cases h1 : ofK (s[i].toNat : Int) = 1
      · rw [if_pos h1, if_pos h1]
        by_cases hok : numOk ((s[i] :: (bl s).drop (i + 1)).take (runN numU (s[i] :: (bl s).drop (i + 1)))) = true
        · rw [if_pos hok]
          refine ⟨fun kd t v n h => ?_, fun h => (by cases h)⟩
          simp only [Option.some.injEq, Prod.mk.injEq] at h
          obtain ⟨rfl, rfl, rfl, rfl⟩ := h
          rw [hu, hok]
          exact ⟨h4, rfl⟩
        · rw [if_neg hok]
          rw [Bool.eq_false_iff.mpr hok] at hu
          exact ⟨fun _ _ _ _ h => (by cases h), fun _ => .inr ⟨_, _, _, _, _, hu⟩⟩
      · rw [if_neg h1, if_neg h1]
        by_cases h2 : ofK (s[i].toNat : Int) = 2
        · rw [if_pos h2, if_pos h2, hst]
          constructor
          · intro kd t v n h
            obtain ⟨⟨t', n'⟩, h3, h5⟩ := Option.map_eq_some_iff.mp h
            simp only [Prod.mk.injEq] at h5
            obtain ⟨rfl, rfl, rfl, rfl⟩ := h5
            refine ⟨h4, ?_⟩
            rw [hl.1 t' n' h3, List.nil_append, show i + 1 + n' = i + (n' + 1) from by omega]
          · intro h
            obtain ⟨p, hp⟩ := hl.2 (Option.map_eq_none_iff.mp h)
            exact .inr ⟨_, _, _, _, p, hp⟩
        · rw [if_neg h2, if_neg h2]
          refine ⟨fun kd t v n h => ?_, fun h => (by cases h)⟩
          simp only [Option.some.injEq, Prod.mk.injEq] at h
          obtain ⟨rfl, rfl, rfl, rfl⟩ := h
          exact ⟨h4, ho⟩
abbrev TokS := S29
def lexL : Nat → Nat → Nat → List UInt8 → List TokS ⊕ (Nat × Int)
  | 0, _, p, _ => .inr (p, 0)
  | _ + 1, _, _, [] => .inl []
  | f + 1, m, p, b :: r => match lex1 (b :: r) with
    | none => .inr (p, 4)
    | some (kd, t, v, n) => if m = 0 then .inr (p, 2) else
      match lexL f (m - 1) (p + n + skipN false ((b :: r).drop n)) (((b :: r).drop n).drop (skipN false ((b :: r).drop n))) with
      | .inl ts => .inl (⟨kd, ⟨t.toArray⟩, v, p⟩ :: ts)
      | .inr e => .inr e
def endL (s : ByteArray) (acc : List TokS) : List TokS ⊕ (Nat × Int) → List TokS × Int × Int
  | .inl ts => (acc ++ ts, s.size, 0)
  | .inr (p, e) => ([], p, e)
theorem tokLoop_eq (s : ByteArray) (hs : s.size ≤ 1000000000000) : ∀ (d k i m f : Nat) (acc : List TokS), i ≤ s.size → s.size - i ≤ d → d + 1 < k → d < f → acc.length + m = 1000 →
    tokLoop k s s acc i = some (endL s acc (lexL f m i ((bl s).drop i))) := by
  intro d
  induction d with
  | zero =>
    intro k i m f acc hi hd hk hf hm
    obtain ⟨k, rfl⟩ : ∃ m, k = m + 1 := ⟨k - 1, by omega⟩
    obtain ⟨f, rfl⟩ : ∃ m, f = m + 1 := ⟨f - 1, by omega⟩
    obtain rfl : i = s.size := by omega
    simp only [tokLoop]
    rw [if_neg (by omega), List.drop_of_length_le (by rw [bl_length]; omega)]
    simp [lexL, endL]
  | succ d ih =>
    intro k i m f acc hi hd hk hf hm
    obtain ⟨k, rfl⟩ : ∃ m, k = m + 1 := ⟨k - 1, by omega⟩
    obtain ⟨f, rfl⟩ : ∃ m, f = m + 1 := ⟨f - 1, by omega⟩
    by_cases hlt : i < s.size
    · simp only [tokLoop]
      rw [if_pos (by omega), if_pos (by omega)]
      obtain ⟨h1, h2⟩ := tokOne_eq s hs k i hlt (by omega)
      cases hx : lex1 ((bl s).drop i) with
      | none =>
        have e : lexL (f + 1) m i ((bl s).drop i) = .inr (i, 4) := by rw [drop_bl s i hlt] at hx ⊢; simp only [lexL, hx]
        rw [e]
        by_cases h4 : ofK (bt s i) = 4
        · rw [if_pos h4]; rfl
        · rw [if_neg h4]
          rcases h2 hx with h | ⟨a, b, c, d', p, h⟩
          · exact absurd h h4
          · rw [h]; rfl
      | some x =>
        obtain ⟨kd, t, v, n⟩ := x
        obtain ⟨h4, h5⟩ := h1 kd t v n hx
        obtain ⟨n1, n2⟩ := lex1_le _ _ _ _ _ hx
        rw [List.length_drop, bl_length] at n2
        rw [if_neg h4, h5]
        simp only [Option.bind_some]
        rw [if_neg (by simp)]
        have hsk := skip_eq s hs k (i + n) (by omega) (by omega)
        have hle := skipN_le false ((bl s).drop (i + n))
        rw [List.length_drop, bl_length] at hle
        by_cases hmm : m = 0
        · have e : lexL (f + 1) m i ((bl s).drop i) = .inr (i, 2) := by rw [drop_bl s i hlt] at hx ⊢; simp only [lexL, hx]; rw [if_pos hmm]
          rw [if_pos (by omega), e]; rfl
        · have e : lexL (f + 1) m i ((bl s).drop i) = match lexL f (m - 1) (i + n + skipN false ((bl s).drop (i + n))) ((bl s).drop (i + n + skipN false ((bl s).drop (i + n)))) with
              | .inl ts => .inl (⟨kd, ⟨t.toArray⟩, v, i⟩ :: ts)
              | .inr e => .inr e := by
            rw [← List.drop_drop, ← List.drop_drop]
            rw [drop_bl s i hlt] at hx ⊢
            simp only [lexL, hx]
            rw [if_neg hmm, show (bl s).drop (i + n) = (s[i] :: (bl s).drop (i + 1)).drop n from by rw [← drop_bl s i hlt, List.drop_drop]]
          rw [if_neg (by omega), hsk]
          simp only [Option.bind_some]
          rw [ih k _ (m - 1) f _ (by omega) (by omega) (by omega) (by omega) (by simp; omega), e]
          cases lexL f (m - 1) (i + n + skipN false ((bl s).drop (i + n))) ((bl s).drop (i + n + skipN false ((bl s).drop (i + n)))) with
          | inl ts => simp [endL]
          | inr e => rfl
    · obtain rfl : i = s.size := by omega
      simp only [tokLoop]
      rw [if_neg (by omega), List.drop_of_length_le (by rw [bl_length]; omega)]
      simp [lexL, endL]
def allL (l : List UInt8) : List TokS ⊕ (Nat × Int) := lexL (l.length + 1) 1000 (skipN false l) (l.drop (skipN false l))
def allF (s : ByteArray) : List TokS × Int × Int := if s.size > 5000 then ([], 0, 2) else endL s [] (allL (bl s))
theorem tokAll_eq (s : ByteArray) : tokAll (s.size + 3) s = some (allF s) := by
  unfold tokAll allF
  by_cases h : s.size > 5000
  · rw [if_pos (by omega), if_pos h]
  · rw [if_neg (by omega), if_neg h]
    have hsk := skip_eq s (by omega) (s.size + 3) 0 (by omega) (by omega)
    have hle := skipN_le false (bl s)
    rw [bl_length] at hle
    simp only [Int.natCast_zero, Nat.zero_add, List.drop_zero] at hsk
    rw [hsk]
    simp only [Option.bind_some]
    unfold allL
    exact tokLoop_eq s (by omega) s.size (s.size + 3) (skipN false (bl s)) 1000 ((bl s).length + 1) [] hle (by omega) (by omega) (by rw [bl_length]; omega) (by simp)
def token_All.f (a0 : ByteArray) : Option (List TokS × Int × Int) := some (allF a0)
theorem token_All.calls (a0 : ByteArray) (r1 : List S29) (r2 : Int) (r3 : Int) (w : World) (hG : GInv w) (h : token_All.f a0 = some (r1, r2, r3)) :
    Calls Tryd.prog 16 #[.string a0] w fun e w' => ∃ v0_ : Value, e = .returned (.tuple #[v0_, .int .i64 r2, .int .i64 r3]) ∧ Kd.R k29 29 w' w.heap.size (fun _ => True) v0_ r1 ∧ Below w.heap.size w w' :=
  tokAll_walk (a0.size + 3) a0 r1 r2 r3 w hG (by rw [tokAll_eq]; exact h)
end Go.Proofs.YtngcojabofkbjaaDoor.P
namespace Go.Proofs.YtngcojabofkbjaaDoor.P
open Go.RowKit Go.Proofs.YtngcojabofkbjaaDoorW.PrintWords Go.Proofs.YtngcojabofkbjaaDoorW.PrintLast Go.Proofs.YtngcojabofkbjaaDoorW.PrintMore
set_option linter.unusedVariables false
set_option linter.unusedSimpArgs false
theorem sb_size : (Tryd.prog.info? 65).map (·.size) = some 2 := by kernel_rfl
set_option maxHeartbeats 1000000 in
set_option maxRecDepth 100000 in
theorem sb_copyCheck_used (b : Nat) (w : World) (h0 : w.cell? ⟨b, 0, none⟩ = some (.pointer (some ⟨b, 0, none⟩))) :
    Calls Tryd.prog 68 #[.pointer (some ⟨b, 0, none⟩)] w fun e w' => e = .returned (.tuple #[]) ∧ w' = w := by
  obtain ⟨j, hj, _⟩ := Option.map_eq_some_iff.1 sb_size
  go_enter Tryd.func68, Tryd.ntmps68
  go_wp2
  rw [Lib.run_neq_ptr_same w _ Tryd.underlying62 hj]
  go_wp2
  go_end0
  exact ⟨rfl, rfl⟩
set_option maxHeartbeats 1000000 in
set_option maxRecDepth 100000 in
theorem sb_copyCheck_fresh (b : Nat) (w : World) (h0 : w.cell? ⟨b, 0, none⟩ = some (.pointer none)) (hsh : w.shape? b = some (65, 2)) (hfz : w.frozen? ⟨b, 0, none⟩ = false) :
    Calls Tryd.prog 68 #[.pointer (some ⟨b, 0, none⟩)] w fun e w' => e = .returned (.tuple #[]) ∧ w' = w.setCell ⟨b, 0, none⟩ (.pointer (some ⟨b, 0, none⟩)) := by
  obtain ⟨j, hj, hjs⟩ := Option.map_eq_some_iff.1 sb_size
  have lies := Tryd.Builder_Extra_169.liesBuilder
  go_enter Tryd.func68, Tryd.ntmps68
  go_wp2
  rw [Lib.run_to_unsafe w ⟨b, 0, none⟩ Tryd.underlying62 Tryd.underlying102 hj (by rw [hjs]; decide) hsh (Nat.zero_lt_succ 1)]
  simp only [Result.andThen]
  rw [Oper.upon_value]
  go_wp2
  rw [run_callFunc_extern Tryd.func80 (by kernel_rfl) (by kernel_rfl) (by kernel_rfl) (e := Extern.AbiNoEscape.same) (by kernel_rfl)]
  rw [Lib.run_noEscape]
  simp only [Result.andThen]
  rw [Oper.upon_value]
  go_wp2
  rw [Lib.run_from_unsafe w ⟨b, 0, none⟩ Tryd.underlying102 Tryd.underlying62 hj hsh lies]
  simp only [Result.andThen]
  rw [Oper.upon_value]
  go_wp2
  go_end0
  exact ⟨rfl, rfl⟩
theorem sb_copyCheck (B b : Nat) (bs : List Value) (w : World) (h : Lib.IsBuilder 65 5 B b bs w) :
    Calls Tryd.prog 68 #[.pointer (some ⟨b, 0, none⟩)] w fun e w' => e = .returned (.tuple #[]) ∧ (Lib.BuilderAt 65 5 B b (.pointer (some ⟨b, 0, none⟩)) bs w' ∧ Below B w w') := by
  rcases h with h | h
  · refine (sb_copyCheck_fresh b w h.cell0 h.shape h.frozen0).mono ?_
    rintro e w' ⟨rfl, rfl⟩
    exact ⟨rfl, h.used _, (Below.refl B w).setCell (p := ⟨b, 0, none⟩) h.1 _⟩
  · refine (sb_copyCheck_used b w h.cell0).mono ?_
    rintro e w' ⟨rfl, rfl⟩
    exact ⟨rfl, h, Below.refl B _⟩
theorem sb_infoByte : (Tryd.prog.info? 5).map (fun i => (i.zero, i.size, i.bytes)) = some (some (.int .u8 0), 1, 1) := by kernel_rfl
set_option maxHeartbeats 2000000 in
set_option maxRecDepth 100000 in
theorem sb_WriteByte (B b : Nat) (bs : List Value) (c : Int) (w : World) (h : Lib.IsBuilder 65 5 B b bs w) (hlen : bs.length + 1 ≤ 140737488355328) (hBw : B ≤ w.heap.size) :
    Calls Tryd.prog 41 #[.pointer (some ⟨b, 0, none⟩), .int .u8 c] w fun e w' => e = .returned .nilIface ∧ (Lib.BuilderAt 65 5 B b (.pointer (some ⟨b, 0, none⟩)) (bs ++ [.int .u8 c]) w' ∧ Below B w w') := by
  obtain ⟨i0, hi, hz0, hz1, hz2⟩ := info_parts sb_infoByte
  go_enter Tryd.func41, Tryd.ntmps41
  go_wp2_with (go_at_call 68; refine (sb_copyCheck B b bs _ h).mono ?_)
  rintro e w1 ⟨rfl, h1, hb1⟩
  obtain ⟨hB, v, hbk, hown, hne⟩ := h1
  have c0 : w1.cell? ⟨b, 0, none⟩ = some (.pointer (some ⟨b, 0, none⟩)) := by rw [Lib.cell_of_heap hbk]; rfl
  have c1 : w1.cell? ⟨b, 1, none⟩ = some v := by rw [Lib.cell_of_heap hbk]; rfl
  go_wp2_with (at_builtin; refine wpList_append_own _ rfl _ _ 63 rfl B 5 i0 (.int .u8 0) 1 1 Tryd.underlying63 hi hz0 hz1 hz2 rfl (by decide) _ _ _ rfl (hown.alloc _) ⟨w1.heap.size, 0, none⟩ 1 1 [.int .u8 c] rfl rfl ?c1 ?c2 ?c3 ?c4 ?c5 ?_)
  case c1 =>
    intro j u hj
    match j, hj with
    | 0, hj => simp at hj; subst hj; simp [Addr.add]
  case c2 => intro u hu; simp at hu; subst hu; rfl
  case c3 => unfold maxLen; omega
  case c4 => omega
  case c5 => have := hb1.size; simp; omega
  intro v' w2 hown' hgrow _
  have hlt : b < w1.heap.size := by
    rcases Nat.lt_or_ge b w1.heap.size with h' | h'
    · exact h'
    · simp [Array.getElem?_eq_none h'] at hbk
  have hb2 : w2.heap[b]? = some (.cells #[.pointer (some ⟨b, 0, none⟩), v] 65 (0, 0)) := by
    rw [hgrow.block b (by simp; omega) (fun e => hne e.symm), Lib.alloc_old w1 _ b hlt]
    exact hbk
  have d0 : w2.cell? ⟨b, 0, none⟩ = some (.pointer (some ⟨b, 0, none⟩)) := by rw [Lib.cell_of_heap hb2]; rfl
  have d1 : w2.cell? ⟨b, 1, none⟩ = some v := by rw [Lib.cell_of_heap hb2]; rfl
  have f1 : w2.frozen? ⟨b, 1, none⟩ = false := Lib.frozen_of_heap hb2 1
  obtain ⟨g, cap, rfl⟩ : ∃ g cap, v' = .slice (some ⟨g, 0, none⟩) (bs.length + 1) cap := by
    rcases hown'.2 with ⟨_, h0⟩ | ⟨g, cap, cur, hv, _⟩
    · omega
    · exact ⟨g, cap, hv⟩
  go_wp2
  go_ret
  refine ⟨rfl, ?_, ?_⟩
  · exact Lib.BuilderAt.put (T := 65) (e := 5) hB hb2 (bs' := bs ++ [.int .u8 c]) (by simpa using hown') (by decide)
  · exact ((hb1.alloc (by have := hb1.size; omega) _).grown hgrow (by have := hb1.size; simp; omega) (fun k hk => (hown.lt k hk).1)).setCell (p := ⟨b, 1, none⟩) hB _
set_option maxHeartbeats 2000000 in
set_option maxRecDepth 100000 in
theorem sb_WriteString (B b : Nat) (bs : List Value) (s : ByteArray) (w : World) (h : Lib.IsBuilder 65 5 B b bs w) (hlen : bs.length + s.size ≤ 140737488355328) (hBw : B ≤ w.heap.size) :
    Calls Tryd.prog 42 #[.pointer (some ⟨b, 0, none⟩), .string s] w fun e w' => e = .returned (.tuple #[.int .i64 s.size, .nilIface]) ∧ (Lib.BuilderAt 65 5 B b (.pointer (some ⟨b, 0, none⟩)) (bs ++ Lib.strCells s) w' ∧ Below B w w') := by
  obtain ⟨i0, hi, hz0, hz1, hz2⟩ := info_parts sb_infoByte
  go_enter Tryd.func42, Tryd.ntmps42
  go_wp2_with (go_at_call 68; refine (sb_copyCheck B b bs _ h).mono ?_)
  rintro e w1 ⟨rfl, h1, hb1⟩
  obtain ⟨hB, v, hbk, hown, hne⟩ := h1
  have c0 : w1.cell? ⟨b, 0, none⟩ = some (.pointer (some ⟨b, 0, none⟩)) := by rw [Lib.cell_of_heap hbk]; rfl
  have c1 : w1.cell? ⟨b, 1, none⟩ = some v := by rw [Lib.cell_of_heap hbk]; rfl
  go_wp2_with (at_builtin; refine Lib.wpList_append_own_string _ rfl _ _ 63 9 rfl B 5 i0 Tryd.underlying63 Tryd.underlying9 hi hz0 hz1 hz2 _ _ _ rfl hown s rfl ?c3 ?c4 ?c5 ?_)
  case c3 => unfold maxLen; omega
  case c4 => omega
  case c5 => have := hb1.size; omega
  intro v' w2 hown' hgrow _
  have hlt : b < w1.heap.size := by
    rcases Nat.lt_or_ge b w1.heap.size with h' | h'
    · exact h'
    · simp [Array.getElem?_eq_none h'] at hbk
  have hb2 : w2.heap[b]? = some (.cells #[.pointer (some ⟨b, 0, none⟩), v] 65 (0, 0)) := by
    rw [hgrow.block b hlt (fun e => hne e.symm)]
    exact hbk
  have d0 : w2.cell? ⟨b, 0, none⟩ = some (.pointer (some ⟨b, 0, none⟩)) := by rw [Lib.cell_of_heap hb2]; rfl
  have d1 : w2.cell? ⟨b, 1, none⟩ = some v := by rw [Lib.cell_of_heap hb2]; rfl
  have f1 : w2.frozen? ⟨b, 1, none⟩ = false := Lib.frozen_of_heap hb2 1
  obtain ⟨ao, n', cap, rfl⟩ : ∃ ao n' cap, v' = .slice ao n' cap := by
    rcases hown'.2 with ⟨hv, _⟩ | ⟨g, cap, cur, hv, _⟩
    · exact ⟨_, _, _, hv⟩
    · exact ⟨_, _, _, hv⟩
  go_wp2
  go_ret2
  refine ⟨rfl, ?_, ?_⟩
  · exact Lib.BuilderAt.put (T := 65) (e := 5) hB hb2 (bs' := bs ++ Lib.strCells s) (by simpa [Lib.strCells_length] using hown') (by decide)
  · exact (hb1.grown hgrow (by have := hb1.size; omega) (fun k hk => (hown.lt k hk).1)).setCell (p := ⟨b, 1, none⟩) hB _
end Go.Proofs.YtngcojabofkbjaaDoor.P
namespace Go.Proofs.YtngcojabofkbjaaDoor.P
open Go.RowKit Go.Proofs.YtngcojabofkbjaaDoorW.PrintWords Go.Proofs.YtngcojabofkbjaaDoorW.PrintLast Go.Proofs.YtngcojabofkbjaaDoorW.PrintMore
set_option linter.unusedVariables false
set_option linter.unusedSimpArgs false
def hexB (n : Nat) : UInt8 := if n < 10 then UInt8.ofNat (48 + n) else UInt8.ofNat (87 + n)
def quote1 (c : UInt8) : List UInt8 := if c = 34 ∨ c = 92 then [92, c] else if c = 10 then [92, 110] else if c < 32 ∨ 126 < c then [92, 120, hexB (c.toNat / 16), hexB (c.toNat % 16)] else [c]
def quoteL (l : List UInt8) : List UInt8 := 34 :: (l.flatMap quote1 ++ [34])
def token_Quote.f (a0 : ByteArray) : Option (ByteArray) := if a0.size ≤ 1000000000000 then some ⟨(quoteL a0.data.toList).toArray⟩ else none
theorem quote1_nat (c : UInt8) : quote1 c = if c.toNat = 34 ∨ c.toNat = 92 then [92, c] else if c.toNat = 10 then [92, 110] else if c.toNat < 32 ∨ 126 < c.toNat then [92, 120, hexB (c.toNat / 16), hexB (c.toNat % 16)] else [c] := by
  have e1 : c = 34 ↔ c.toNat = 34 := by rw [← UInt8.toNat_inj]; rfl
  have e2 : c = 92 ↔ c.toNat = 92 := by rw [← UInt8.toNat_inj]; rfl
  have e3 : c = 10 ↔ c.toNat = 10 := by rw [← UInt8.toNat_inj]; rfl
  have e4 : c < 32 ↔ c.toNat < 32 := by rw [UInt8.lt_iff_toNat_lt]; rfl
  have e5 : 126 < c ↔ 126 < c.toNat := by rw [UInt8.lt_iff_toNat_lt]; rfl
  unfold quote1
  simp only [e1, e2, e3, e4, e5]
theorem hex_at (k : Nat) (h : k < (⟨#[48, 49, 50, 51, 52, 53, 54, 55, 56, 57, 97, 98, 99, 100, 101, 102]⟩ : ByteArray).size) : (⟨#[48, 49, 50, 51, 52, 53, 54, 55, 56, 57, 97, 98, 99, 100, 101, 102]⟩ : ByteArray)[k] = hexB k := by
  have h16 : k < 16 := h
  have all : ∀ j : Fin 16, (⟨#[48, 49, 50, 51, 52, 53, 54, 55, 56, 57, 97, 98, 99, 100, 101, 102]⟩ : ByteArray)[j.val]'(j.isLt) = hexB j.val := by decide
  exact all ⟨k, h16⟩
theorem quote1_length (c : UInt8) : (quote1 c).length ≤ 4 := by
  unfold quote1; repeat' split
  all_goals simp
theorem flat_length (l : List UInt8) : (l.flatMap quote1).length ≤ 4 * l.length := by
  induction l with
  | nil => simp
  | cons c l ih => have := quote1_length c; simp only [List.flatMap_cons, List.length_append, List.length_cons]; omega
theorem take_snoc (s : ByteArray) (k : Nat) (h : k < s.size) : s.data.toList.take (k + 1) = s.data.toList.take k ++ [s[k]] := by
  rw [List.take_succ_eq_append_getElem (by simpa using h)]; rfl
def qAcc (s : ByteArray) (i : Nat) : List UInt8 := 34 :: (s.data.toList.take i).flatMap quote1
theorem qAcc_succ (s : ByteArray) (i : Nat) (h : i < s.size) : qAcc s (i + 1) = qAcc s i ++ quote1 s[i] := by
  unfold qAcc; rw [take_snoc s i h]; simp
theorem qAcc_length (s : ByteArray) (i : Nat) (h : i ≤ s.size) : (qAcc s i).length ≤ 4 * i + 1 := by
  unfold qAcc
  have h1 := flat_length (s.data.toList.take i)
  have h2 : (s.data.toList.take i).length ≤ i := List.length_take_le _ _
  simp only [List.length_cons]; omega
set_option maxHeartbeats 4000000 in
set_option maxRecDepth 100000 in
theorem token_Quote.calls (a0 : ByteArray) (r : ByteArray) (w : World) (h : token_Quote.f a0 = some r) :
    Calls Tryd.prog 19 #[.string a0] w fun e w' => e = .returned (.string r) ∧ Below w.heap.size w w' := by
  unfold token_Quote.f at h
  split at h
  · rename_i hs
    obtain rfl := Option.some.inj h
    clear h
    have HF := Aside0.mk (Lib.fresh_isBuilder 65 5 w)
    have HB := Aside0.mk (below_alloc (Below.refl w.heap.size w) (.cells #[.pointer none, .slice none 0 0] 65))
    go_enter Tryd.func19, Tryd.ntmps19
    go_wp2_with (go_at_call 41; refine (sb_WriteByte _ _ _ _ _ HF.out ?s1 ?s2).mono ?_; (case s1 => simp); (case s2 => exact HB.out.size); rintro e w1 ⟨rfl, h1, hb⟩; have n0_ := Aside0.mk h1; have n1_ := Aside0.mk (HB.out.trans hb); clear HF HB hb h1; have HD := n0_; have HB := n1_; clear n0_ n1_)
    have hl0 := qAcc_length a0 0 (by omega)
    go_loopg [9] a0.size (fun n v9 W => ∃ i : Nat, v9 = .int .i64 i ∧ Aside0 (i + n = a0.size) ∧ Aside0 (Lib.BuilderAt 65 5 w.heap.size w.heap.size (.pointer (some ⟨w.heap.size, 0, none⟩)) (Lib.byteCells (qAcc a0 i)) W) ∧ Aside0 (Below w.heap.size w W))
    case atStart => exact ⟨0, rfl, ⟨by omega⟩, ⟨by simpa [qAcc, Lib.byteCells] using HD.out⟩, ⟨HB.out⟩⟩
    case round =>
      clear HD HB hl0
      obtain ⟨i, rfl, HN, HD, HB⟩ := hrel
      have hle : i ≤ a0.size := by have := HN.out; omega
      have hl := qAcc_length a0 i hle
      by_cases hlt : i < a0.size
      · have HS := Aside0.mk (qAcc_succ a0 i hlt)
        have hc := Aside0.mk (a0[i].toNat_lt)
        have hbd : (a0[i].toNat : Int) ≤ 255 := by have := hc.out; omega
        cases gk with
        | zero => exact absurd HN.out (by omega)
        | succ k1 =>
          by_cases c34 : a0[i].toNat = 34
          · have b1 : ((a0[i].toNat : Int) == 34) = true := by simp [c34]
            have HQ := Aside0.mk (show quote1 a0[i] = [92, a0[i]] by rw [quote1_nat, if_pos (.inl c34)])
            clear c34
            go_wp2_with (first | (go_at_call 41; refine (sb_WriteByte _ _ _ _ _ (.inr HD.out) ?s1 ?s2).mono ?_; (case s1 => simp [Lib.byteCells, Lib.strCells]; omega); (case s2 => exact HB.out.size); rintro e w2 ⟨rfl, h1, hb⟩; have n0_ := Aside0.mk h1; have n1_ := Aside0.mk (HB.out.trans hb); clear HD HB hb h1; have HD := n0_; have HB := n1_; clear n0_ n1_) | (go_at_call 42; refine (sb_WriteString _ _ _ _ _ (.inr HD.out) ?s1 ?s2).mono ?_; (case s1 => rw [Lib.byteCells_length]; show _ + 2 ≤ _; omega); (case s2 => exact HB.out.size); rintro e w2 ⟨rfl, h1, hb⟩; have n0_ := Aside0.mk h1; have n1_ := Aside0.mk (HB.out.trans hb); clear HD HB hb h1; have HD := n0_; have HB := n1_; clear n0_ n1_))
            go_roundg k1
            case measure => omega
            case rel => exact ⟨i + 1, by go_num, ⟨by have := HN.out; omega⟩, ⟨by rw [HS.out, HQ.out]; simpa [Lib.byteCells, Lib.strCells] using HD.out⟩, ⟨HB.out⟩⟩
          · by_cases c92 : a0[i].toNat = 92
            · have b1 : ((a0[i].toNat : Int) == 34) = false := by rw [beq_eq_false_iff_ne]; omega
              have b2 : ((a0[i].toNat : Int) == 92) = true := by simp [c92]
              have HQ := Aside0.mk (show quote1 a0[i] = [92, a0[i]] by rw [quote1_nat, if_pos (.inr c92)])
              clear c34 c92
              go_wp2_with (first | (go_at_call 41; refine (sb_WriteByte _ _ _ _ _ (.inr HD.out) ?s1 ?s2).mono ?_; (case s1 => simp [Lib.byteCells, Lib.strCells]; omega); (case s2 => exact HB.out.size); rintro e w2 ⟨rfl, h1, hb⟩; have n0_ := Aside0.mk h1; have n1_ := Aside0.mk (HB.out.trans hb); clear HD HB hb h1; have HD := n0_; have HB := n1_; clear n0_ n1_) | (go_at_call 42; refine (sb_WriteString _ _ _ _ _ (.inr HD.out) ?s1 ?s2).mono ?_; (case s1 => rw [Lib.byteCells_length]; show _ + 2 ≤ _; omega); (case s2 => exact HB.out.size); rintro e w2 ⟨rfl, h1, hb⟩; have n0_ := Aside0.mk h1; have n1_ := Aside0.mk (HB.out.trans hb); clear HD HB hb h1; have HD := n0_; have HB := n1_; clear n0_ n1_))
              go_roundg k1
              case measure => omega
              case rel => exact ⟨i + 1, by go_num, ⟨by have := HN.out; omega⟩, ⟨by rw [HS.out, HQ.out]; simpa [Lib.byteCells, Lib.strCells] using HD.out⟩, ⟨HB.out⟩⟩
            · by_cases c10 : a0[i].toNat = 10
              · have b1 : ((a0[i].toNat : Int) == 34) = false := by rw [beq_eq_false_iff_ne]; omega
                have b2 : ((a0[i].toNat : Int) == 92) = false := by rw [beq_eq_false_iff_ne]; omega
                have b3 : ((a0[i].toNat : Int) == 10) = true := by simp [c10]
                have HQ := Aside0.mk (show quote1 a0[i] = [92, 110] by rw [quote1_nat, if_neg (by omega), if_pos c10])
                clear c34 c92 c10
                go_wp2_with (first | (go_at_call 41; refine (sb_WriteByte _ _ _ _ _ (.inr HD.out) ?s1 ?s2).mono ?_; (case s1 => simp [Lib.byteCells, Lib.strCells]; omega); (case s2 => exact HB.out.size); rintro e w2 ⟨rfl, h1, hb⟩; have n0_ := Aside0.mk h1; have n1_ := Aside0.mk (HB.out.trans hb); clear HD HB hb h1; have HD := n0_; have HB := n1_; clear n0_ n1_) | (go_at_call 42; refine (sb_WriteString _ _ _ _ _ (.inr HD.out) ?s1 ?s2).mono ?_; (case s1 => rw [Lib.byteCells_length]; show _ + 2 ≤ _; omega); (case s2 => exact HB.out.size); rintro e w2 ⟨rfl, h1, hb⟩; have n0_ := Aside0.mk h1; have n1_ := Aside0.mk (HB.out.trans hb); clear HD HB hb h1; have HD := n0_; have HB := n1_; clear n0_ n1_))
                go_roundg k1
                case measure => omega
                case rel => exact ⟨i + 1, by go_num, ⟨by have := HN.out; omega⟩, ⟨by rw [HS.out, HQ.out]; simpa [Lib.byteCells, Lib.strCells] using HD.out⟩, ⟨HB.out⟩⟩
              · have b1 : ((a0[i].toNat : Int) == 34) = false := by rw [beq_eq_false_iff_ne]; omega
                have b2 : ((a0[i].toNat : Int) == 92) = false := by rw [beq_eq_false_iff_ne]; omega
                have b3 : ((a0[i].toNat : Int) == 10) = false := by rw [beq_eq_false_iff_ne]; omega
                by_cases c32 : a0[i].toNat < 32
                · have b4 : decide ((a0[i].toNat : Int) < 32) = true := decide_eq_true (by omega)
                  have HQ := Aside0.mk (show quote1 a0[i] = [92, 120, hexB (a0[i].toNat / 16), hexB (a0[i].toNat % 16)] by rw [quote1_nat, if_neg (by omega), if_neg c10, if_pos (.inl c32)])
                  clear c34 c92 c10 c32
                  go_wp2_with (first | (go_at_call 41; refine (sb_WriteByte _ _ _ _ _ (.inr HD.out) ?s1 ?s2).mono ?_; (case s1 => simp [Lib.byteCells, Lib.strCells]; omega); (case s2 => exact HB.out.size); rintro e w2 ⟨rfl, h1, hb⟩; have n0_ := Aside0.mk h1; have n1_ := Aside0.mk (HB.out.trans hb); clear HD HB hb h1; have HD := n0_; have HB := n1_; clear n0_ n1_) | (go_at_call 42; refine (sb_WriteString _ _ _ _ _ (.inr HD.out) ?s1 ?s2).mono ?_; (case s1 => rw [Lib.byteCells_length]; show _ + 2 ≤ _; omega); (case s2 => exact HB.out.size); rintro e w2 ⟨rfl, h1, hb⟩; have n0_ := Aside0.mk h1; have n1_ := Aside0.mk (HB.out.trans hb); clear HD HB hb h1; have HD := n0_; have HB := n1_; clear n0_ n1_))
                  go_roundg k1
                  case measure => omega
                  case rel => exact ⟨i + 1, by go_num, ⟨by have := HN.out; omega⟩, ⟨by rw [HS.out, HQ.out]; have hd := HD.out; simp only [hex_at] at hd; simpa [Lib.byteCells, Lib.strCells] using hd⟩, ⟨HB.out⟩⟩
                · have b4 : decide ((a0[i].toNat : Int) < 32) = false := decide_eq_false (by omega)
                  by_cases c126 : 126 < a0[i].toNat
                  · have b5 : decide (126 < (a0[i].toNat : Int)) = true := decide_eq_true (by omega)
                    have HQ := Aside0.mk (show quote1 a0[i] = [92, 120, hexB (a0[i].toNat / 16), hexB (a0[i].toNat % 16)] by rw [quote1_nat, if_neg (by omega), if_neg c10, if_pos (.inr c126)])
                    clear c34 c92 c10 c32 c126
                    go_wp2_with (first | (go_at_call 41; refine (sb_WriteByte _ _ _ _ _ (.inr HD.out) ?s1 ?s2).mono ?_; (case s1 => simp [Lib.byteCells, Lib.strCells]; omega); (case s2 => exact HB.out.size); rintro e w2 ⟨rfl, h1, hb⟩; have n0_ := Aside0.mk h1; have n1_ := Aside0.mk (HB.out.trans hb); clear HD HB hb h1; have HD := n0_; have HB := n1_; clear n0_ n1_) | (go_at_call 42; refine (sb_WriteString _ _ _ _ _ (.inr HD.out) ?s1 ?s2).mono ?_; (case s1 => rw [Lib.byteCells_length]; show _ + 2 ≤ _; omega); (case s2 => exact HB.out.size); rintro e w2 ⟨rfl, h1, hb⟩; have n0_ := Aside0.mk h1; have n1_ := Aside0.mk (HB.out.trans hb); clear HD HB hb h1; have HD := n0_; have HB := n1_; clear n0_ n1_))
                    go_roundg k1
                    case measure => omega
                    case rel => exact ⟨i + 1, by go_num, ⟨by have := HN.out; omega⟩, ⟨by rw [HS.out, HQ.out]; have hd := HD.out; simp only [hex_at] at hd; simpa [Lib.byteCells, Lib.strCells] using hd⟩, ⟨HB.out⟩⟩
                  · have b5 : decide (126 < (a0[i].toNat : Int)) = false := decide_eq_false (by omega)
                    have HQ := Aside0.mk (show quote1 a0[i] = [a0[i]] by rw [quote1_nat, if_neg (by omega), if_neg c10, if_neg (by omega)])
                    clear c34 c92 c10 c32 c126
                    go_wp2_with (first | (go_at_call 41; refine (sb_WriteByte _ _ _ _ _ (.inr HD.out) ?s1 ?s2).mono ?_; (case s1 => simp [Lib.byteCells, Lib.strCells]; omega); (case s2 => exact HB.out.size); rintro e w2 ⟨rfl, h1, hb⟩; have n0_ := Aside0.mk h1; have n1_ := Aside0.mk (HB.out.trans hb); clear HD HB hb h1; have HD := n0_; have HB := n1_; clear n0_ n1_) | (go_at_call 42; refine (sb_WriteString _ _ _ _ _ (.inr HD.out) ?s1 ?s2).mono ?_; (case s1 => rw [Lib.byteCells_length]; show _ + 2 ≤ _; omega); (case s2 => exact HB.out.size); rintro e w2 ⟨rfl, h1, hb⟩; have n0_ := Aside0.mk h1; have n1_ := Aside0.mk (HB.out.trans hb); clear HD HB hb h1; have HD := n0_; have HB := n1_; clear n0_ n1_))
                    go_roundg k1
                    case measure => omega
                    case rel => exact ⟨i + 1, by go_num, ⟨by have := HN.out; omega⟩, ⟨by rw [HS.out, HQ.out]; simpa [Lib.byteCells, Lib.strCells] using HD.out⟩, ⟨HB.out⟩⟩
      · obtain rfl : i = a0.size := by omega
        have HD2 := Aside0.mk (show qAcc a0 a0.size ++ [34] = quoteL a0.data.toList by unfold qAcc quoteL; rw [List.take_of_length_le (by simp)]; rfl)
        have hd : decide ((a0.size : Int) < (a0.size : Int)) = false := decide_eq_false (by omega)
        go_wp2_with (first | (go_at_call 41; refine (sb_WriteByte _ _ _ _ _ (.inr HD.out) ?s1 ?s2).mono ?_; (case s1 => simp [Lib.byteCells, Lib.strCells]; omega); (case s2 => exact HB.out.size); rintro e w2 ⟨rfl, h1, hb⟩; have n0_ := Aside0.mk h1; have n1_ := Aside0.mk (HB.out.trans hb); clear HD HB hb h1; have HD := n0_; have HB := n1_; clear n0_ n1_) | (go_at_call 43; refine (Tryd.Builder_String_any _ _ (quoteL a0.data.toList) _ (.inr ?s1) HB.out.size).mono ?_; (case s1 => have := HD.out; rw [← HD2.out, Lib.byteCells_append]; exact this); rintro e w3 ⟨rfl, hb⟩))
        go_ret
        exact ⟨rfl, HB.out.trans hb⟩
  · cases h
end Go.Proofs.YtngcojabofkbjaaDoor.P
namespace Go.Proofs.YtngcojabofkbjaaDoor.P
open Go.RowKit Go.Proofs.YtngcojabofkbjaaDoorW.PrintWords Go.Proofs.YtngcojabofkbjaaDoorW.PrintLast Go.Proofs.YtngcojabofkbjaaDoorW.PrintMore
set_option linter.unusedVariables false
set_option linter.unusedSimpArgs false
def trufflelaw06_awake.f  : Option (Bool) := (token_All.f (⟨#[97, 32, 61, 32, 45, 53, 59]⟩ : ByteArray)).bind fun bt138 => (if bt138.2.2 = 0 then (if bt138.2.1 = 7 then (if (bt138.1.length : Int) = 4 then (if 0 < (bt138.1.length : Int) then (if ((rd_T29 bt138.1 0).f0) = 0 then (if 1 < (bt138.1.length : Int) then (if ((rd_T29 bt138.1 1).f1).toList = ([61] : List UInt8) then (if 2 < (bt138.1.length : Int) then (if ((rd_T29 bt138.1 2).f2) = (-5) then (if 3 < (bt138.1.length : Int) then (if ((rd_T29 bt138.1 3).f0) = 3 then ((token_Quote.f (⟨#[97]⟩ : ByteArray)).bind fun t147 => (some (t147.toList == ([34, 97, 34] : List UInt8)))) else (some false)) else (none)) else (some false)) else (none)) else (some false)) else (none)) else (some false)) else (none)) else (some false)) else (some false)) else (some false))
set_option maxHeartbeats 8000000 in
set_option maxRecDepth 100000 in
theorem trufflelaw06_awake.calls  (r : Bool) (w : World) (hG : GInv w) (h : trufflelaw06_awake.f  = some r) :
    Calls Tryd.prog 15 #[] w fun e w' => e = .returned (.bool r) ∧ Below w.heap.size w w' := by
  have HB := Aside0.mk (Below.refl w.heap.size w)
  have H : ((token_All.f (⟨#[97, 32, 61, 32, 45, 53, 59]⟩ : ByteArray)).bind fun bt138 => (if bt138.2.2 = 0 then (if bt138.2.1 = 7 then (if (bt138.1.length : Int) = 4 then (if 0 < (bt138.1.length : Int) then (if ((rd_T29 bt138.1 0).f0) = 0 then (if 1 < (bt138.1.length : Int) then (if ((rd_T29 bt138.1 1).f1).toList = ([61] : List UInt8) then (if 2 < (bt138.1.length : Int) then (if ((rd_T29 bt138.1 2).f2) = (-5) then (if 3 < (bt138.1.length : Int) then (if ((rd_T29 bt138.1 3).f0) = 3 then ((token_Quote.f (⟨#[97]⟩ : ByteArray)).bind fun t147 => (some (t147.toList == ([34, 97, 34] : List UInt8)))) else (some false)) else (none)) else (some false)) else (none)) else (some false)) else (none)) else (some false)) else (none)) else (some false)) else (some false)) else (some false))) = some r := h
  clear h
  replace H := Option.bind_eq_some_iff.mp H
  obtain ⟨⟨t138, t139, t140⟩, A10, H⟩ := H
  replace H : (if t140 = 0 then (if t139 = 7 then (if (t138.length : Int) = 4 then (if 0 < (t138.length : Int) then (if ((rd_T29 t138 0).f0) = 0 then (if 1 < (t138.length : Int) then (if ((rd_T29 t138 1).f1).toList = ([61] : List UInt8) then (if 2 < (t138.length : Int) then (if ((rd_T29 t138 2).f2) = (-5) then (if 3 < (t138.length : Int) then (if ((rd_T29 t138 3).f0) = 3 then ((token_Quote.f (⟨#[97]⟩ : ByteArray)).bind fun t147 => (some (t147.toList == ([34, 97, 34] : List UInt8)))) else (some false)) else (none)) else (some false)) else (none)) else (some false)) else (none)) else (some false)) else (none)) else (some false)) else (some false)) else (some false)) = some r := H
  have A1 := Aside0.mk A10
  clear A10
  by_cases c2 : t140 = 0
  · rw [if_pos c2] at H
    have c2b0 : (t140 == 0) = true := beq_iff_eq.mpr c2
    have c2b1 : (t140 != 0) = false := bne_eq_false_iff_eq.mpr c2
    clear c2
    by_cases c3 : t139 = 7
    · rw [if_pos c3] at H
      have c3b0 : (t139 == 7) = true := beq_iff_eq.mpr c3
      have c3b1 : (t139 != 7) = false := bne_eq_false_iff_eq.mpr c3
      clear c3
      by_cases c4 : (t138.length : Int) = 4
      · rw [if_pos c4] at H
        have c4b0 : ((t138.length : Int) == 4) = true := beq_iff_eq.mpr c4
        have c4b1 : ((t138.length : Int) != 4) = false := bne_eq_false_iff_eq.mpr c4
        clear c4
        by_cases c5 : 0 < (t138.length : Int)
        · rw [if_pos c5] at H
          have c5b0 : decide (0 < (t138.length : Int)) = true := decide_eq_true c5
          have c5b1 : decide (0 < t138.length) = true := decide_eq_true (by omega)
          clear c5
          by_cases c6 : ((rd_T29 t138 0).f0) = 0
          · rw [if_pos c6] at H
            have c6b0 : (((rd_T29 t138 0).f0) == 0) = true := beq_iff_eq.mpr c6
            have c6b1 : (((rd_T29 t138 0).f0) != 0) = false := bne_eq_false_iff_eq.mpr c6
            clear c6
            by_cases c7 : 1 < (t138.length : Int)
            · rw [if_pos c7] at H
              have c7b0 : decide (1 < (t138.length : Int)) = true := decide_eq_true c7
              have c7b1 : decide (1 < t138.length) = true := decide_eq_true (by omega)
              clear c7
              by_cases c8 : ((rd_T29 t138 1).f1).toList = ([61] : List UInt8)
              · rw [if_pos c8] at H
                have c8b0 : (((rd_T29 t138 1).f1).toList == ([61] : List UInt8)) = true := beq_iff_eq.mpr c8
                have c8b1 : (((rd_T29 t138 1).f1).toList != ([61] : List UInt8)) = false := bne_eq_false_iff_eq.mpr c8
                clear c8
                by_cases c9 : 2 < (t138.length : Int)
                · rw [if_pos c9] at H
                  have c9b0 : decide (2 < (t138.length : Int)) = true := decide_eq_true c9
                  have c9b1 : decide (2 < t138.length) = true := decide_eq_true (by omega)
                  clear c9
                  by_cases c10 : ((rd_T29 t138 2).f2) = (-5)
                  · rw [if_pos c10] at H
                    have c10b0 : (((rd_T29 t138 2).f2) == (-5)) = true := beq_iff_eq.mpr c10
                    have c10b1 : (((rd_T29 t138 2).f2) != (-5)) = false := bne_eq_false_iff_eq.mpr c10
                    clear c10
                    by_cases c11 : 3 < (t138.length : Int)
                    · rw [if_pos c11] at H
                      have c11b0 : decide (3 < (t138.length : Int)) = true := decide_eq_true c11
                      have c11b1 : decide (3 < t138.length) = true := decide_eq_true (by omega)
                      clear c11
                      by_cases c12 : ((rd_T29 t138 3).f0) = 3
                      · rw [if_pos c12] at H
                        have c12b0 : (((rd_T29 t138 3).f0) == 3) = true := beq_iff_eq.mpr c12
                        have c12b1 : (((rd_T29 t138 3).f0) != 3) = false := bne_eq_false_iff_eq.mpr c12
                        clear c12
                        replace H := Option.bind_eq_some_iff.mp H
                        obtain ⟨t147, A130, H⟩ := H
                        replace H : (some (t147.toList == ([34, 97, 34] : List UInt8))) = some r := H
                        have A13 := Aside0.mk A130
                        clear A130
                        obtain rfl := Option.some.inj H
                        go_enter Tryd.func15, Tryd.ntmps15
                        go_wp2_with (first | ((with_reducible refine gate_callee (f := 16) rfl ?_); refine goesL_ (some 5) rfl rfl Tryd.func16 (by kernel_rfl) rfl #[.string (⟨#[97, 32, 61, 32, 45, 53, 59]⟩ : ByteArray)] rfl (by (try simp only [List.map_toArray, List.map_cons, List.map_nil]); first | done | rfl | (simp only [List.length_drop, List.length_take]; rfl)) ?_; (with_reducible refine (token_All.calls (⟨#[97, 32, 61, 32, 45, 53, 59]⟩ : ByteArray) t138 t139 t140 _ ?side1 A1.out).mono ?_); (case side1 => exact hG.below (by repeat (first | (with_reducible first | exact HB.out | apply below_alloc | apply pw_below_drewN | apply below_drew1) | exact HB.out))); rintro e w14 ⟨v141, rfl, ho0, hb⟩; refine ⟨_, rfl, ?_⟩; have n0_ := Aside0.mk (Kd.R_lower ho0 (below_size (by repeat (first | (with_reducible first | exact HB.out | apply below_alloc | apply pw_below_drewN | apply below_drew1) | exact HB.out)))); have n1_ := Aside0.mk (below_step (by repeat (first | (with_reducible first | exact HB.out | apply below_alloc | apply pw_below_drewN | apply below_drew1) | exact HB.out)) hb); clear HB; have HO142 := n0_; have HB := n1_; clear n0_ n1_; (try clear hb); (try clear hb2); (try clear hk); (try clear hi); (try clear ho0); obtain ⟨Ao15, co15, eo15⟩ := Kd.R_slice HO142.out; subst eo15; have p143 : 0 ≤ (0 : Int) := (by omega); have q143 : 0 < (t138.length : Int) := of_decide_eq_true (by first | (with_reducible assumption) | assumption); obtain ⟨ad143, e143, hx143_0, hx143_1, hx143_2, hx143_3⟩ := at_T29 (Kd.R_reads' HO142.out).2.2 0 p143 q143; cases e143; have qi143 : (0 < t138.length) = True := eq_true (by omega); (try rw [show ((0 : Int)).toNat = 0 from rfl] at hx143_0); (try rw [show 0 * 4 = 0 from rfl] at hx143_0); (try rw [Addr.add_zero'] at hx143_0); (try rw [show ((0 : Int)).toNat = 0 from rfl] at hx143_1); (try rw [show 0 * 4 = 0 from rfl] at hx143_1); (try rw [Addr.add_zero'] at hx143_1); (try rw [show ((0 : Int)).toNat = 0 from rfl] at hx143_2); (try rw [show 0 * 4 = 0 from rfl] at hx143_2); (try rw [Addr.add_zero'] at hx143_2); (try rw [show ((0 : Int)).toNat = 0 from rfl] at hx143_3); (try rw [show 0 * 4 = 0 from rfl] at hx143_3); (try rw [Addr.add_zero'] at hx143_3); replace p143 := eq_true p143; replace q143 := eq_true q143; have p144 : 0 ≤ (1 : Int) := (by omega); have q144 : 1 < (t138.length : Int) := of_decide_eq_true (by first | (with_reducible assumption) | assumption); obtain ⟨ad144, e144, hx144_0, hx144_1, hx144_2, hx144_3⟩ := at_T29 (Kd.R_reads' HO142.out).2.2 1 p144 q144; obtain rfl : ad143 = ad144 := (by injection e144); (try simp only [show (1 : Int).toNat = 1 from rfl, Nat.reduceMul, Nat.reduceEqDiff, Go.Addr.add, ↓reduceIte] at hx144_0); (try simp only [show (1 : Int).toNat = 1 from rfl, Nat.reduceMul, Nat.reduceEqDiff, Go.Addr.add, ↓reduceIte] at hx144_1); (try simp only [show (1 : Int).toNat = 1 from rfl, Nat.reduceMul, Nat.reduceEqDiff, Go.Addr.add, ↓reduceIte] at hx144_2); (try simp only [show (1 : Int).toNat = 1 from rfl, Nat.reduceMul, Nat.reduceEqDiff, Go.Addr.add, ↓reduceIte] at hx144_3); have qi144 : (1 < t138.length) = True := eq_true (by omega); (try rw [show ((1 : Int)).toNat = 1 from rfl] at hx144_0); (try rw [show 1 * 4 = 4 from rfl] at hx144_0); (try rw [show ((1 : Int)).toNat = 1 from rfl] at hx144_1); (try rw [show 1 * 4 = 4 from rfl] at hx144_1); (try rw [show ((1 : Int)).toNat = 1 from rfl] at hx144_2); (try rw [show 1 * 4 = 4 from rfl] at hx144_2); (try rw [show ((1 : Int)).toNat = 1 from rfl] at hx144_3); (try rw [show 1 * 4 = 4 from rfl] at hx144_3); replace p144 := eq_true p144; replace q144 := eq_true q144; have p145 : 0 ≤ (2 : Int) := (by omega); have q145 : 2 < (t138.length : Int) := of_decide_eq_true (by first | (with_reducible assumption) | assumption); obtain ⟨ad145, e145, hx145_0, hx145_1, hx145_2, hx145_3⟩ := at_T29 (Kd.R_reads' HO142.out).2.2 2 p145 q145; obtain rfl : ad143 = ad145 := (by injection e145); (try simp only [show (2 : Int).toNat = 2 from rfl, Nat.reduceMul, Nat.reduceEqDiff, Go.Addr.add, ↓reduceIte] at hx145_0); (try simp only [show (2 : Int).toNat = 2 from rfl, Nat.reduceMul, Nat.reduceEqDiff, Go.Addr.add, ↓reduceIte] at hx145_1); (try simp only [show (2 : Int).toNat = 2 from rfl, Nat.reduceMul, Nat.reduceEqDiff, Go.Addr.add, ↓reduceIte] at hx145_2); (try simp only [show (2 : Int).toNat = 2 from rfl, Nat.reduceMul, Nat.reduceEqDiff, Go.Addr.add, ↓reduceIte] at hx145_3); have qi145 : (2 < t138.length) = True := eq_true (by omega); (try rw [show ((2 : Int)).toNat = 2 from rfl] at hx145_0); (try rw [show 2 * 4 = 8 from rfl] at hx145_0); (try rw [show ((2 : Int)).toNat = 2 from rfl] at hx145_1); (try rw [show 2 * 4 = 8 from rfl] at hx145_1); (try rw [show ((2 : Int)).toNat = 2 from rfl] at hx145_2); (try rw [show 2 * 4 = 8 from rfl] at hx145_2); (try rw [show ((2 : Int)).toNat = 2 from rfl] at hx145_3); (try rw [show 2 * 4 = 8 from rfl] at hx145_3); replace p145 := eq_true p145; replace q145 := eq_true q145; have p146 : 0 ≤ (3 : Int) := (by omega); have q146 : 3 < (t138.length : Int) := of_decide_eq_true (by first | (with_reducible assumption) | assumption); obtain ⟨ad146, e146, hx146_0, hx146_1, hx146_2, hx146_3⟩ := at_T29 (Kd.R_reads' HO142.out).2.2 3 p146 q146; obtain rfl : ad143 = ad146 := (by injection e146); (try simp only [show (3 : Int).toNat = 3 from rfl, Nat.reduceMul, Nat.reduceEqDiff, Go.Addr.add, ↓reduceIte] at hx146_0); (try simp only [show (3 : Int).toNat = 3 from rfl, Nat.reduceMul, Nat.reduceEqDiff, Go.Addr.add, ↓reduceIte] at hx146_1); (try simp only [show (3 : Int).toNat = 3 from rfl, Nat.reduceMul, Nat.reduceEqDiff, Go.Addr.add, ↓reduceIte] at hx146_2); (try simp only [show (3 : Int).toNat = 3 from rfl, Nat.reduceMul, Nat.reduceEqDiff, Go.Addr.add, ↓reduceIte] at hx146_3); have qi146 : (3 < t138.length) = True := eq_true (by omega); (try rw [show ((3 : Int)).toNat = 3 from rfl] at hx146_0); (try rw [show 3 * 4 = 12 from rfl] at hx146_0); (try rw [show ((3 : Int)).toNat = 3 from rfl] at hx146_1); (try rw [show 3 * 4 = 12 from rfl] at hx146_1); (try rw [show ((3 : Int)).toNat = 3 from rfl] at hx146_2); (try rw [show 3 * 4 = 12 from rfl] at hx146_2); (try rw [show ((3 : Int)).toNat = 3 from rfl] at hx146_3); (try rw [show 3 * 4 = 12 from rfl] at hx146_3); replace p146 := eq_true p146; replace q146 := eq_true q146) | (go_at_call 19; (with_reducible refine (token_Quote.calls (⟨#[97]⟩ : ByteArray) t147 _ A13.out).mono ?_); rintro e w16 ⟨rfl, hb⟩; have n0_ := Aside0.mk (Kd.R_below (by (with_reducible repeat (first | apply Kd.R_alloc | apply Kd.R_drewN | apply Kd.R_drew)); exact HO142.out) hb); have n1_ := Aside0.mk (below_step (by repeat (first | (with_reducible first | exact HB.out | apply below_alloc | apply pw_below_drewN | apply below_drew1) | exact HB.out)) hb); clear HO142; clear HB; have HO142 := n0_; have HB := n1_; clear n0_ n1_; (try clear hb); (try clear hb2); (try clear hk); (try clear hi)))
                        go_ret
                        exact ⟨by first | rfl | (simp [] <;> rfl) | (simp [*] <;> rfl), by repeat (first | (with_reducible first | exact HB.out | apply below_alloc | apply pw_below_drewN | apply below_drew1) | exact HB.out)⟩
                      · rw [if_neg c12] at H
                        have c12b0 : (((rd_T29 t138 3).f0) == 3) = false := beq_eq_false_iff_ne.mpr c12
                        have c12b1 : (((rd_T29 t138 3).f0) != 3) = true := bne_iff_ne.mpr c12
                        obtain rfl := Option.some.inj H
                        go_enter Tryd.func15, Tryd.ntmps15
                        go_wp2_with (first | ((with_reducible refine gate_callee (f := 16) rfl ?_); refine goesL_ (some 5) rfl rfl Tryd.func16 (by kernel_rfl) rfl #[.string (⟨#[97, 32, 61, 32, 45, 53, 59]⟩ : ByteArray)] rfl (by (try simp only [List.map_toArray, List.map_cons, List.map_nil]); first | done | rfl | (simp only [List.length_drop, List.length_take]; rfl)) ?_; (with_reducible refine (token_All.calls (⟨#[97, 32, 61, 32, 45, 53, 59]⟩ : ByteArray) t138 t139 t140 _ ?side1 A1.out).mono ?_); (case side1 => exact hG.below (by repeat (first | (with_reducible first | exact HB.out | apply below_alloc | apply pw_below_drewN | apply below_drew1) | exact HB.out))); rintro e w17 ⟨v141, rfl, ho0, hb⟩; refine ⟨_, rfl, ?_⟩; have n0_ := Aside0.mk (Kd.R_lower ho0 (below_size (by repeat (first | (with_reducible first | exact HB.out | apply below_alloc | apply pw_below_drewN | apply below_drew1) | exact HB.out)))); have n1_ := Aside0.mk (below_step (by repeat (first | (with_reducible first | exact HB.out | apply below_alloc | apply pw_below_drewN | apply below_drew1) | exact HB.out)) hb); clear HB; have HO142 := n0_; have HB := n1_; clear n0_ n1_; (try clear hb); (try clear hb2); (try clear hk); (try clear hi); (try clear ho0); obtain ⟨Ao18, co18, eo18⟩ := Kd.R_slice HO142.out; subst eo18; have p143 : 0 ≤ (0 : Int) := (by omega); have q143 : 0 < (t138.length : Int) := of_decide_eq_true (by first | (with_reducible assumption) | assumption); obtain ⟨ad143, e143, hx143_0, hx143_1, hx143_2, hx143_3⟩ := at_T29 (Kd.R_reads' HO142.out).2.2 0 p143 q143; cases e143; have qi143 : (0 < t138.length) = True := eq_true (by omega); (try rw [show ((0 : Int)).toNat = 0 from rfl] at hx143_0); (try rw [show 0 * 4 = 0 from rfl] at hx143_0); (try rw [Addr.add_zero'] at hx143_0); (try rw [show ((0 : Int)).toNat = 0 from rfl] at hx143_1); (try rw [show 0 * 4 = 0 from rfl] at hx143_1); (try rw [Addr.add_zero'] at hx143_1); (try rw [show ((0 : Int)).toNat = 0 from rfl] at hx143_2); (try rw [show 0 * 4 = 0 from rfl] at hx143_2); (try rw [Addr.add_zero'] at hx143_2); (try rw [show ((0 : Int)).toNat = 0 from rfl] at hx143_3); (try rw [show 0 * 4 = 0 from rfl] at hx143_3); (try rw [Addr.add_zero'] at hx143_3); replace p143 := eq_true p143; replace q143 := eq_true q143; have p144 : 0 ≤ (1 : Int) := (by omega); have q144 : 1 < (t138.length : Int) := of_decide_eq_true (by first | (with_reducible assumption) | assumption); obtain ⟨ad144, e144, hx144_0, hx144_1, hx144_2, hx144_3⟩ := at_T29 (Kd.R_reads' HO142.out).2.2 1 p144 q144; obtain rfl : ad143 = ad144 := (by injection e144); (try simp only [show (1 : Int).toNat = 1 from rfl, Nat.reduceMul, Nat.reduceEqDiff, Go.Addr.add, ↓reduceIte] at hx144_0); (try simp only [show (1 : Int).toNat = 1 from rfl, Nat.reduceMul, Nat.reduceEqDiff, Go.Addr.add, ↓reduceIte] at hx144_1); (try simp only [show (1 : Int).toNat = 1 from rfl, Nat.reduceMul, Nat.reduceEqDiff, Go.Addr.add, ↓reduceIte] at hx144_2); (try simp only [show (1 : Int).toNat = 1 from rfl, Nat.reduceMul, Nat.reduceEqDiff, Go.Addr.add, ↓reduceIte] at hx144_3); have qi144 : (1 < t138.length) = True := eq_true (by omega); (try rw [show ((1 : Int)).toNat = 1 from rfl] at hx144_0); (try rw [show 1 * 4 = 4 from rfl] at hx144_0); (try rw [show ((1 : Int)).toNat = 1 from rfl] at hx144_1); (try rw [show 1 * 4 = 4 from rfl] at hx144_1); (try rw [show ((1 : Int)).toNat = 1 from rfl] at hx144_2); (try rw [show 1 * 4 = 4 from rfl] at hx144_2); (try rw [show ((1 : Int)).toNat = 1 from rfl] at hx144_3); (try rw [show 1 * 4 = 4 from rfl] at hx144_3); replace p144 := eq_true p144; replace q144 := eq_true q144; have p145 : 0 ≤ (2 : Int) := (by omega); have q145 : 2 < (t138.length : Int) := of_decide_eq_true (by first | (with_reducible assumption) | assumption); obtain ⟨ad145, e145, hx145_0, hx145_1, hx145_2, hx145_3⟩ := at_T29 (Kd.R_reads' HO142.out).2.2 2 p145 q145; obtain rfl : ad143 = ad145 := (by injection e145); (try simp only [show (2 : Int).toNat = 2 from rfl, Nat.reduceMul, Nat.reduceEqDiff, Go.Addr.add, ↓reduceIte] at hx145_0); (try simp only [show (2 : Int).toNat = 2 from rfl, Nat.reduceMul, Nat.reduceEqDiff, Go.Addr.add, ↓reduceIte] at hx145_1); (try simp only [show (2 : Int).toNat = 2 from rfl, Nat.reduceMul, Nat.reduceEqDiff, Go.Addr.add, ↓reduceIte] at hx145_2); (try simp only [show (2 : Int).toNat = 2 from rfl, Nat.reduceMul, Nat.reduceEqDiff, Go.Addr.add, ↓reduceIte] at hx145_3); have qi145 : (2 < t138.length) = True := eq_true (by omega); (try rw [show ((2 : Int)).toNat = 2 from rfl] at hx145_0); (try rw [show 2 * 4 = 8 from rfl] at hx145_0); (try rw [show ((2 : Int)).toNat = 2 from rfl] at hx145_1); (try rw [show 2 * 4 = 8 from rfl] at hx145_1); (try rw [show ((2 : Int)).toNat = 2 from rfl] at hx145_2); (try rw [show 2 * 4 = 8 from rfl] at hx145_2); (try rw [show ((2 : Int)).toNat = 2 from rfl] at hx145_3); (try rw [show 2 * 4 = 8 from rfl] at hx145_3); replace p145 := eq_true p145; replace q145 := eq_true q145; have p146 : 0 ≤ (3 : Int) := (by omega); have q146 : 3 < (t138.length : Int) := of_decide_eq_true (by first | (with_reducible assumption) | assumption); obtain ⟨ad146, e146, hx146_0, hx146_1, hx146_2, hx146_3⟩ := at_T29 (Kd.R_reads' HO142.out).2.2 3 p146 q146; obtain rfl : ad143 = ad146 := (by injection e146); (try simp only [show (3 : Int).toNat = 3 from rfl, Nat.reduceMul, Nat.reduceEqDiff, Go.Addr.add, ↓reduceIte] at hx146_0); (try simp only [show (3 : Int).toNat = 3 from rfl, Nat.reduceMul, Nat.reduceEqDiff, Go.Addr.add, ↓reduceIte] at hx146_1); (try simp only [show (3 : Int).toNat = 3 from rfl, Nat.reduceMul, Nat.reduceEqDiff, Go.Addr.add, ↓reduceIte] at hx146_2); (try simp only [show (3 : Int).toNat = 3 from rfl, Nat.reduceMul, Nat.reduceEqDiff, Go.Addr.add, ↓reduceIte] at hx146_3); have qi146 : (3 < t138.length) = True := eq_true (by omega); (try rw [show ((3 : Int)).toNat = 3 from rfl] at hx146_0); (try rw [show 3 * 4 = 12 from rfl] at hx146_0); (try rw [show ((3 : Int)).toNat = 3 from rfl] at hx146_1); (try rw [show 3 * 4 = 12 from rfl] at hx146_1); (try rw [show ((3 : Int)).toNat = 3 from rfl] at hx146_2); (try rw [show 3 * 4 = 12 from rfl] at hx146_2); (try rw [show ((3 : Int)).toNat = 3 from rfl] at hx146_3); (try rw [show 3 * 4 = 12 from rfl] at hx146_3); replace p146 := eq_true p146; replace q146 := eq_true q146))
                        go_ret
                        exact ⟨by first | rfl | (simp [] <;> rfl) | (simp [*] <;> rfl), by repeat (first | (with_reducible first | exact HB.out | apply below_alloc | apply pw_below_drewN | apply below_drew1) | exact HB.out)⟩
                    · rw [if_neg c11] at H
                      exact absurd H (by simp)
                  · rw [if_neg c10] at H
                    have c10b0 : (((rd_T29 t138 2).f2) == (-5)) = false := beq_eq_false_iff_ne.mpr c10
                    have c10b1 : (((rd_T29 t138 2).f2) != (-5)) = true := bne_iff_ne.mpr c10
                    obtain rfl := Option.some.inj H
                    go_enter Tryd.func15, Tryd.ntmps15
                    go_wp2_with (first | ((with_reducible refine gate_callee (f := 16) rfl ?_); refine goesL_ (some 5) rfl rfl Tryd.func16 (by kernel_rfl) rfl #[.string (⟨#[97, 32, 61, 32, 45, 53, 59]⟩ : ByteArray)] rfl (by (try simp only [List.map_toArray, List.map_cons, List.map_nil]); first | done | rfl | (simp only [List.length_drop, List.length_take]; rfl)) ?_; (with_reducible refine (token_All.calls (⟨#[97, 32, 61, 32, 45, 53, 59]⟩ : ByteArray) t138 t139 t140 _ ?side1 A1.out).mono ?_); (case side1 => exact hG.below (by repeat (first | (with_reducible first | exact HB.out | apply below_alloc | apply pw_below_drewN | apply below_drew1) | exact HB.out))); rintro e w19 ⟨v141, rfl, ho0, hb⟩; refine ⟨_, rfl, ?_⟩; have n0_ := Aside0.mk (Kd.R_lower ho0 (below_size (by repeat (first | (with_reducible first | exact HB.out | apply below_alloc | apply pw_below_drewN | apply below_drew1) | exact HB.out)))); have n1_ := Aside0.mk (below_step (by repeat (first | (with_reducible first | exact HB.out | apply below_alloc | apply pw_below_drewN | apply below_drew1) | exact HB.out)) hb); clear HB; have HO142 := n0_; have HB := n1_; clear n0_ n1_; (try clear hb); (try clear hb2); (try clear hk); (try clear hi); (try clear ho0); obtain ⟨Ao20, co20, eo20⟩ := Kd.R_slice HO142.out; subst eo20; have p143 : 0 ≤ (0 : Int) := (by omega); have q143 : 0 < (t138.length : Int) := of_decide_eq_true (by first | (with_reducible assumption) | assumption); obtain ⟨ad143, e143, hx143_0, hx143_1, hx143_2, hx143_3⟩ := at_T29 (Kd.R_reads' HO142.out).2.2 0 p143 q143; cases e143; have qi143 : (0 < t138.length) = True := eq_true (by omega); (try rw [show ((0 : Int)).toNat = 0 from rfl] at hx143_0); (try rw [show 0 * 4 = 0 from rfl] at hx143_0); (try rw [Addr.add_zero'] at hx143_0); (try rw [show ((0 : Int)).toNat = 0 from rfl] at hx143_1); (try rw [show 0 * 4 = 0 from rfl] at hx143_1); (try rw [Addr.add_zero'] at hx143_1); (try rw [show ((0 : Int)).toNat = 0 from rfl] at hx143_2); (try rw [show 0 * 4 = 0 from rfl] at hx143_2); (try rw [Addr.add_zero'] at hx143_2); (try rw [show ((0 : Int)).toNat = 0 from rfl] at hx143_3); (try rw [show 0 * 4 = 0 from rfl] at hx143_3); (try rw [Addr.add_zero'] at hx143_3); replace p143 := eq_true p143; replace q143 := eq_true q143; have p144 : 0 ≤ (1 : Int) := (by omega); have q144 : 1 < (t138.length : Int) := of_decide_eq_true (by first | (with_reducible assumption) | assumption); obtain ⟨ad144, e144, hx144_0, hx144_1, hx144_2, hx144_3⟩ := at_T29 (Kd.R_reads' HO142.out).2.2 1 p144 q144; obtain rfl : ad143 = ad144 := (by injection e144); (try simp only [show (1 : Int).toNat = 1 from rfl, Nat.reduceMul, Nat.reduceEqDiff, Go.Addr.add, ↓reduceIte] at hx144_0); (try simp only [show (1 : Int).toNat = 1 from rfl, Nat.reduceMul, Nat.reduceEqDiff, Go.Addr.add, ↓reduceIte] at hx144_1); (try simp only [show (1 : Int).toNat = 1 from rfl, Nat.reduceMul, Nat.reduceEqDiff, Go.Addr.add, ↓reduceIte] at hx144_2); (try simp only [show (1 : Int).toNat = 1 from rfl, Nat.reduceMul, Nat.reduceEqDiff, Go.Addr.add, ↓reduceIte] at hx144_3); have qi144 : (1 < t138.length) = True := eq_true (by omega); (try rw [show ((1 : Int)).toNat = 1 from rfl] at hx144_0); (try rw [show 1 * 4 = 4 from rfl] at hx144_0); (try rw [show ((1 : Int)).toNat = 1 from rfl] at hx144_1); (try rw [show 1 * 4 = 4 from rfl] at hx144_1); (try rw [show ((1 : Int)).toNat = 1 from rfl] at hx144_2); (try rw [show 1 * 4 = 4 from rfl] at hx144_2); (try rw [show ((1 : Int)).toNat = 1 from rfl] at hx144_3); (try rw [show 1 * 4 = 4 from rfl] at hx144_3); replace p144 := eq_true p144; replace q144 := eq_true q144; have p145 : 0 ≤ (2 : Int) := (by omega); have q145 : 2 < (t138.length : Int) := of_decide_eq_true (by first | (with_reducible assumption) | assumption); obtain ⟨ad145, e145, hx145_0, hx145_1, hx145_2, hx145_3⟩ := at_T29 (Kd.R_reads' HO142.out).2.2 2 p145 q145; obtain rfl : ad143 = ad145 := (by injection e145); (try simp only [show (2 : Int).toNat = 2 from rfl, Nat.reduceMul, Nat.reduceEqDiff, Go.Addr.add, ↓reduceIte] at hx145_0); (try simp only [show (2 : Int).toNat = 2 from rfl, Nat.reduceMul, Nat.reduceEqDiff, Go.Addr.add, ↓reduceIte] at hx145_1); (try simp only [show (2 : Int).toNat = 2 from rfl, Nat.reduceMul, Nat.reduceEqDiff, Go.Addr.add, ↓reduceIte] at hx145_2); (try simp only [show (2 : Int).toNat = 2 from rfl, Nat.reduceMul, Nat.reduceEqDiff, Go.Addr.add, ↓reduceIte] at hx145_3); have qi145 : (2 < t138.length) = True := eq_true (by omega); (try rw [show ((2 : Int)).toNat = 2 from rfl] at hx145_0); (try rw [show 2 * 4 = 8 from rfl] at hx145_0); (try rw [show ((2 : Int)).toNat = 2 from rfl] at hx145_1); (try rw [show 2 * 4 = 8 from rfl] at hx145_1); (try rw [show ((2 : Int)).toNat = 2 from rfl] at hx145_2); (try rw [show 2 * 4 = 8 from rfl] at hx145_2); (try rw [show ((2 : Int)).toNat = 2 from rfl] at hx145_3); (try rw [show 2 * 4 = 8 from rfl] at hx145_3); replace p145 := eq_true p145; replace q145 := eq_true q145))
                    go_ret
                    exact ⟨by first | rfl | (simp [] <;> rfl) | (simp [*] <;> rfl), by repeat (first | (with_reducible first | exact HB.out | apply below_alloc | apply pw_below_drewN | apply below_drew1) | exact HB.out)⟩
                · rw [if_neg c9] at H
                  exact absurd H (by simp)
              · rw [if_neg c8] at H
                have c8b0 : (((rd_T29 t138 1).f1).toList == ([61] : List UInt8)) = false := beq_eq_false_iff_ne.mpr c8
                have c8b1 : (((rd_T29 t138 1).f1).toList != ([61] : List UInt8)) = true := bne_iff_ne.mpr c8
                obtain rfl := Option.some.inj H
                go_enter Tryd.func15, Tryd.ntmps15
                go_wp2_with (first | ((with_reducible refine gate_callee (f := 16) rfl ?_); refine goesL_ (some 5) rfl rfl Tryd.func16 (by kernel_rfl) rfl #[.string (⟨#[97, 32, 61, 32, 45, 53, 59]⟩ : ByteArray)] rfl (by (try simp only [List.map_toArray, List.map_cons, List.map_nil]); first | done | rfl | (simp only [List.length_drop, List.length_take]; rfl)) ?_; (with_reducible refine (token_All.calls (⟨#[97, 32, 61, 32, 45, 53, 59]⟩ : ByteArray) t138 t139 t140 _ ?side1 A1.out).mono ?_); (case side1 => exact hG.below (by repeat (first | (with_reducible first | exact HB.out | apply below_alloc | apply pw_below_drewN | apply below_drew1) | exact HB.out))); rintro e w21 ⟨v141, rfl, ho0, hb⟩; refine ⟨_, rfl, ?_⟩; have n0_ := Aside0.mk (Kd.R_lower ho0 (below_size (by repeat (first | (with_reducible first | exact HB.out | apply below_alloc | apply pw_below_drewN | apply below_drew1) | exact HB.out)))); have n1_ := Aside0.mk (below_step (by repeat (first | (with_reducible first | exact HB.out | apply below_alloc | apply pw_below_drewN | apply below_drew1) | exact HB.out)) hb); clear HB; have HO142 := n0_; have HB := n1_; clear n0_ n1_; (try clear hb); (try clear hb2); (try clear hk); (try clear hi); (try clear ho0); obtain ⟨Ao22, co22, eo22⟩ := Kd.R_slice HO142.out; subst eo22; have p143 : 0 ≤ (0 : Int) := (by omega); have q143 : 0 < (t138.length : Int) := of_decide_eq_true (by first | (with_reducible assumption) | assumption); obtain ⟨ad143, e143, hx143_0, hx143_1, hx143_2, hx143_3⟩ := at_T29 (Kd.R_reads' HO142.out).2.2 0 p143 q143; cases e143; have qi143 : (0 < t138.length) = True := eq_true (by omega); (try rw [show ((0 : Int)).toNat = 0 from rfl] at hx143_0); (try rw [show 0 * 4 = 0 from rfl] at hx143_0); (try rw [Addr.add_zero'] at hx143_0); (try rw [show ((0 : Int)).toNat = 0 from rfl] at hx143_1); (try rw [show 0 * 4 = 0 from rfl] at hx143_1); (try rw [Addr.add_zero'] at hx143_1); (try rw [show ((0 : Int)).toNat = 0 from rfl] at hx143_2); (try rw [show 0 * 4 = 0 from rfl] at hx143_2); (try rw [Addr.add_zero'] at hx143_2); (try rw [show ((0 : Int)).toNat = 0 from rfl] at hx143_3); (try rw [show 0 * 4 = 0 from rfl] at hx143_3); (try rw [Addr.add_zero'] at hx143_3); replace p143 := eq_true p143; replace q143 := eq_true q143; have p144 : 0 ≤ (1 : Int) := (by omega); have q144 : 1 < (t138.length : Int) := of_decide_eq_true (by first | (with_reducible assumption) | assumption); obtain ⟨ad144, e144, hx144_0, hx144_1, hx144_2, hx144_3⟩ := at_T29 (Kd.R_reads' HO142.out).2.2 1 p144 q144; obtain rfl : ad143 = ad144 := (by injection e144); (try simp only [show (1 : Int).toNat = 1 from rfl, Nat.reduceMul, Nat.reduceEqDiff, Go.Addr.add, ↓reduceIte] at hx144_0); (try simp only [show (1 : Int).toNat = 1 from rfl, Nat.reduceMul, Nat.reduceEqDiff, Go.Addr.add, ↓reduceIte] at hx144_1); (try simp only [show (1 : Int).toNat = 1 from rfl, Nat.reduceMul, Nat.reduceEqDiff, Go.Addr.add, ↓reduceIte] at hx144_2); (try simp only [show (1 : Int).toNat = 1 from rfl, Nat.reduceMul, Nat.reduceEqDiff, Go.Addr.add, ↓reduceIte] at hx144_3); have qi144 : (1 < t138.length) = True := eq_true (by omega); (try rw [show ((1 : Int)).toNat = 1 from rfl] at hx144_0); (try rw [show 1 * 4 = 4 from rfl] at hx144_0); (try rw [show ((1 : Int)).toNat = 1 from rfl] at hx144_1); (try rw [show 1 * 4 = 4 from rfl] at hx144_1); (try rw [show ((1 : Int)).toNat = 1 from rfl] at hx144_2); (try rw [show 1 * 4 = 4 from rfl] at hx144_2); (try rw [show ((1 : Int)).toNat = 1 from rfl] at hx144_3); (try rw [show 1 * 4 = 4 from rfl] at hx144_3); replace p144 := eq_true p144; replace q144 := eq_true q144))
                go_ret
                exact ⟨by first | rfl | (simp [] <;> rfl) | (simp [*] <;> rfl), by repeat (first | (with_reducible first | exact HB.out | apply below_alloc | apply pw_below_drewN | apply below_drew1) | exact HB.out)⟩
            · rw [if_neg c7] at H
              exact absurd H (by simp)
          · rw [if_neg c6] at H
            have c6b0 : (((rd_T29 t138 0).f0) == 0) = false := beq_eq_false_iff_ne.mpr c6
            have c6b1 : (((rd_T29 t138 0).f0) != 0) = true := bne_iff_ne.mpr c6
            obtain rfl := Option.some.inj H
            go_enter Tryd.func15, Tryd.ntmps15
            go_wp2_with (first | ((with_reducible refine gate_callee (f := 16) rfl ?_); refine goesL_ (some 5) rfl rfl Tryd.func16 (by kernel_rfl) rfl #[.string (⟨#[97, 32, 61, 32, 45, 53, 59]⟩ : ByteArray)] rfl (by (try simp only [List.map_toArray, List.map_cons, List.map_nil]); first | done | rfl | (simp only [List.length_drop, List.length_take]; rfl)) ?_; (with_reducible refine (token_All.calls (⟨#[97, 32, 61, 32, 45, 53, 59]⟩ : ByteArray) t138 t139 t140 _ ?side1 A1.out).mono ?_); (case side1 => exact hG.below (by repeat (first | (with_reducible first | exact HB.out | apply below_alloc | apply pw_below_drewN | apply below_drew1) | exact HB.out))); rintro e w23 ⟨v141, rfl, ho0, hb⟩; refine ⟨_, rfl, ?_⟩; have n0_ := Aside0.mk (Kd.R_lower ho0 (below_size (by repeat (first | (with_reducible first | exact HB.out | apply below_alloc | apply pw_below_drewN | apply below_drew1) | exact HB.out)))); have n1_ := Aside0.mk (below_step (by repeat (first | (with_reducible first | exact HB.out | apply below_alloc | apply pw_below_drewN | apply below_drew1) | exact HB.out)) hb); clear HB; have HO142 := n0_; have HB := n1_; clear n0_ n1_; (try clear hb); (try clear hb2); (try clear hk); (try clear hi); (try clear ho0); obtain ⟨Ao24, co24, eo24⟩ := Kd.R_slice HO142.out; subst eo24; have p143 : 0 ≤ (0 : Int) := (by omega); have q143 : 0 < (t138.length : Int) := of_decide_eq_true (by first | (with_reducible assumption) | assumption); obtain ⟨ad143, e143, hx143_0, hx143_1, hx143_2, hx143_3⟩ := at_T29 (Kd.R_reads' HO142.out).2.2 0 p143 q143; cases e143; have qi143 : (0 < t138.length) = True := eq_true (by omega); (try rw [show ((0 : Int)).toNat = 0 from rfl] at hx143_0); (try rw [show 0 * 4 = 0 from rfl] at hx143_0); (try rw [Addr.add_zero'] at hx143_0); (try rw [show ((0 : Int)).toNat = 0 from rfl] at hx143_1); (try rw [show 0 * 4 = 0 from rfl] at hx143_1); (try rw [Addr.add_zero'] at hx143_1); (try rw [show ((0 : Int)).toNat = 0 from rfl] at hx143_2); (try rw [show 0 * 4 = 0 from rfl] at hx143_2); (try rw [Addr.add_zero'] at hx143_2); (try rw [show ((0 : Int)).toNat = 0 from rfl] at hx143_3); (try rw [show 0 * 4 = 0 from rfl] at hx143_3); (try rw [Addr.add_zero'] at hx143_3); replace p143 := eq_true p143; replace q143 := eq_true q143))
            go_ret
            exact ⟨by first | rfl | (simp [] <;> rfl) | (simp [*] <;> rfl), by repeat (first | (with_reducible first | exact HB.out | apply below_alloc | apply pw_below_drewN | apply below_drew1) | exact HB.out)⟩
        · rw [if_neg c5] at H
          exact absurd H (by simp)
      · rw [if_neg c4] at H
        have c4b0 : ((t138.length : Int) == 4) = false := beq_eq_false_iff_ne.mpr c4
        have c4b1 : ((t138.length : Int) != 4) = true := bne_iff_ne.mpr c4
        obtain rfl := Option.some.inj H
        go_enter Tryd.func15, Tryd.ntmps15
        go_wp2_with (first | ((with_reducible refine gate_callee (f := 16) rfl ?_); refine goesL_ (some 5) rfl rfl Tryd.func16 (by kernel_rfl) rfl #[.string (⟨#[97, 32, 61, 32, 45, 53, 59]⟩ : ByteArray)] rfl (by (try simp only [List.map_toArray, List.map_cons, List.map_nil]); first | done | rfl | (simp only [List.length_drop, List.length_take]; rfl)) ?_; (with_reducible refine (token_All.calls (⟨#[97, 32, 61, 32, 45, 53, 59]⟩ : ByteArray) t138 t139 t140 _ ?side1 A1.out).mono ?_); (case side1 => exact hG.below (by repeat (first | (with_reducible first | exact HB.out | apply below_alloc | apply pw_below_drewN | apply below_drew1) | exact HB.out))); rintro e w25 ⟨v141, rfl, ho0, hb⟩; refine ⟨_, rfl, ?_⟩; have n0_ := Aside0.mk (Kd.R_lower ho0 (below_size (by repeat (first | (with_reducible first | exact HB.out | apply below_alloc | apply pw_below_drewN | apply below_drew1) | exact HB.out)))); have n1_ := Aside0.mk (below_step (by repeat (first | (with_reducible first | exact HB.out | apply below_alloc | apply pw_below_drewN | apply below_drew1) | exact HB.out)) hb); clear HB; have HO142 := n0_; have HB := n1_; clear n0_ n1_; (try clear hb); (try clear hb2); (try clear hk); (try clear hi); (try clear ho0); obtain ⟨Ao26, co26, eo26⟩ := Kd.R_slice HO142.out; subst eo26))
        go_ret
        exact ⟨by first | rfl | (simp [] <;> rfl) | (simp [*] <;> rfl), by repeat (first | (with_reducible first | exact HB.out | apply below_alloc | apply pw_below_drewN | apply below_drew1) | exact HB.out)⟩
    · rw [if_neg c3] at H
      have c3b0 : (t139 == 7) = false := beq_eq_false_iff_ne.mpr c3
      have c3b1 : (t139 != 7) = true := bne_iff_ne.mpr c3
      obtain rfl := Option.some.inj H
      go_enter Tryd.func15, Tryd.ntmps15
      go_wp2_with (first | ((with_reducible refine gate_callee (f := 16) rfl ?_); refine goesL_ (some 5) rfl rfl Tryd.func16 (by kernel_rfl) rfl #[.string (⟨#[97, 32, 61, 32, 45, 53, 59]⟩ : ByteArray)] rfl (by (try simp only [List.map_toArray, List.map_cons, List.map_nil]); first | done | rfl | (simp only [List.length_drop, List.length_take]; rfl)) ?_; (with_reducible refine (token_All.calls (⟨#[97, 32, 61, 32, 45, 53, 59]⟩ : ByteArray) t138 t139 t140 _ ?side1 A1.out).mono ?_); (case side1 => exact hG.below (by repeat (first | (with_reducible first | exact HB.out | apply below_alloc | apply pw_below_drewN | apply below_drew1) | exact HB.out))); rintro e w27 ⟨v141, rfl, ho0, hb⟩; refine ⟨_, rfl, ?_⟩; have n0_ := Aside0.mk (Kd.R_lower ho0 (below_size (by repeat (first | (with_reducible first | exact HB.out | apply below_alloc | apply pw_below_drewN | apply below_drew1) | exact HB.out)))); have n1_ := Aside0.mk (below_step (by repeat (first | (with_reducible first | exact HB.out | apply below_alloc | apply pw_below_drewN | apply below_drew1) | exact HB.out)) hb); clear HB; have HO142 := n0_; have HB := n1_; clear n0_ n1_; (try clear hb); (try clear hb2); (try clear hk); (try clear hi); (try clear ho0)))
      go_ret
      exact ⟨by first | rfl | (simp [] <;> rfl) | (simp [*] <;> rfl), by repeat (first | (with_reducible first | exact HB.out | apply below_alloc | apply pw_below_drewN | apply below_drew1) | exact HB.out)⟩
  · rw [if_neg c2] at H
    have c2b0 : (t140 == 0) = false := beq_eq_false_iff_ne.mpr c2
    have c2b1 : (t140 != 0) = true := bne_iff_ne.mpr c2
    obtain rfl := Option.some.inj H
    go_enter Tryd.func15, Tryd.ntmps15
    go_wp2_with (first | ((with_reducible refine gate_callee (f := 16) rfl ?_); refine goesL_ (some 5) rfl rfl Tryd.func16 (by kernel_rfl) rfl #[.string (⟨#[97, 32, 61, 32, 45, 53, 59]⟩ : ByteArray)] rfl (by (try simp only [List.map_toArray, List.map_cons, List.map_nil]); first | done | rfl | (simp only [List.length_drop, List.length_take]; rfl)) ?_; (with_reducible refine (token_All.calls (⟨#[97, 32, 61, 32, 45, 53, 59]⟩ : ByteArray) t138 t139 t140 _ ?side1 A1.out).mono ?_); (case side1 => exact hG.below (by repeat (first | (with_reducible first | exact HB.out | apply below_alloc | apply pw_below_drewN | apply below_drew1) | exact HB.out))); rintro e w28 ⟨v141, rfl, ho0, hb⟩; refine ⟨_, rfl, ?_⟩; have n0_ := Aside0.mk (Kd.R_lower ho0 (below_size (by repeat (first | (with_reducible first | exact HB.out | apply below_alloc | apply pw_below_drewN | apply below_drew1) | exact HB.out)))); have n1_ := Aside0.mk (below_step (by repeat (first | (with_reducible first | exact HB.out | apply below_alloc | apply pw_below_drewN | apply below_drew1) | exact HB.out)) hb); clear HB; have HO142 := n0_; have HB := n1_; clear n0_ n1_; (try clear hb); (try clear hb2); (try clear hk); (try clear hi); (try clear ho0)))
    go_ret
    exact ⟨by first | rfl | (simp [] <;> rfl) | (simp [*] <;> rfl), by repeat (first | (with_reducible first | exact HB.out | apply below_alloc | apply pw_below_drewN | apply below_drew1) | exact HB.out)⟩
end Go.Proofs.YtngcojabofkbjaaDoor.P
namespace Go.Proofs.YtngcojabofkbjaaDoor.P
open Go.RowKit Go.Proofs.YtngcojabofkbjaaDoorW.PrintWords Go.Proofs.YtngcojabofkbjaaDoorW.PrintLast Go.Proofs.YtngcojabofkbjaaDoorW.PrintMore
set_option linter.unusedVariables false
set_option linter.unusedSimpArgs false
theorem eqA29 (d : Nat) (w : World) (x0 y0 : Int) (x1 y1 : ByteArray) (x2 y2 : Int) (x3 y3 : Int) :
    (Op.equalIn (d + 2) 29 (.agg #[.int .i64 x0, .string x1, .int .i64 x2, .int .i64 x3]) (.agg #[.int .i64 y0, .string y1, .int .i64 y2, .int .i64 y3])).run Tryd.prog w = .ok (x0 == y0 && (x1.toList == y1.toList && (x2 == y2 && (x3 == y3)))) w := by
  refine eqA_of Tryd.underlying29 (by kernel_rfl) ?_
  refine eqf_cons (by rfl) (by go_simp; rfl) (by go_simp; rfl) (by go_simp) ?_
  refine eqf_cons (by rfl) (by go_simp; rfl) (by go_simp; rfl) (by go_simp) ?_
  refine eqf_cons (by rfl) (by go_simp; rfl) (by go_simp; rfl) (by go_simp) ?_
  exact eqf_last (by rfl) (by go_simp; rfl) (by go_simp; rfl) (by go_simp)
end Go.Proofs.YtngcojabofkbjaaDoor.P
namespace Go.Proofs.YtngcojabofkbjaaDoor.P
open Go.RowKit Go.Proofs.YtngcojabofkbjaaDoorW.PrintWords Go.Proofs.YtngcojabofkbjaaDoorW.PrintLast Go.Proofs.YtngcojabofkbjaaDoorW.PrintMore
set_option linter.unusedVariables false
set_option linter.unusedSimpArgs false
attribute [local go_sem high] eqA29
def truffleref06_Same.l0 : Nat → List (S29) → List (S29) → Int → Option (Bool)
  | 0, _, _, _ => none
  | k + 1, x0, x1, x5 => if x5 < (x0.length : Int) then (if 0 ≤ x5 then (if x5 < (x1.length : Int) then (if (!(((rd_T29 x0 x5).f0) == ((rd_T29 x1 x5).f0)) || (!((((rd_T29 x0 x5).f1).toList) == (((rd_T29 x1 x5).f1).toList)) || (!(((rd_T29 x0 x5).f2) == ((rd_T29 x1 x5).f2)) || (!(((rd_T29 x0 x5).f3) == ((rd_T29 x1 x5).f3)))))) = true then (some false) else (truffleref06_Same.l0 k x0 x1 (wrap64 (x5 + 1)))) else (none)) else (none)) else (some true)
def truffleref06_Same.f (k : Nat) (l0 : List (S29)) (l1 : List (S29)) : Option (Bool) := if (l0.length : Int) = (l1.length : Int) then (truffleref06_Same.l0 k l0 l1 0) else (some false)
set_option maxHeartbeats 8000000 in
set_option maxRecDepth 100000 in
theorem truffleref06_Same.calls (k : Nat) (A0 : Option Addr) (c0 : Nat) (l0 : List (S29)) (A1 : Option Addr) (c1 : Nat) (l1 : List (S29)) (r : Bool) (w : World) (hr0 : Kd.C k29 w A0 l0.length l0) (hc0 : l0.length ≤ c0) (hr1 : Kd.C k29 w A1 l1.length l1) (hc1 : l1.length ≤ c1) (h : truffleref06_Same.f k l0 l1 = some r) :
    Calls Tryd.prog 17 #[.slice A0 l0.length c0, .slice A1 l1.length c1] w fun e w' => e = .returned (.bool r) ∧ Drawn0 w w' := by
  have hu29 := Tryd.underlying29
  have HR0 := Aside0.mk hr0
  have HC0 := Aside0.mk hc0
  clear hr0 hc0
  have HR1 := Aside0.mk hr1
  have HC1 := Aside0.mk hc1
  clear hr1 hc1
  have H : (if (l0.length : Int) = (l1.length : Int) then (truffleref06_Same.l0 k l0 l1 0) else (some false)) = some r := h
  clear h
  by_cases c3 : (l0.length : Int) = (l1.length : Int)
  · rw [if_pos c3] at H
    have c3b0 : ((l0.length : Int) == (l1.length : Int)) = true := beq_iff_eq.mpr c3
    have c3b1 : ((l0.length : Int) != (l1.length : Int)) = false := bne_eq_false_iff_eq.mpr c3
    have c3b2 : (l0.length == l1.length) = true := by first | simpa using c3 | (simp at c3 ⊢; omega)
    clear c3
    have H' := Aside0.mk H
    clear H
    go_enter Tryd.func17, Tryd.ntmps17
    go_wp2
    repeat (go_quiet (fail); try go_wp2)
    go_loopg [5] k (fun kq v5 w' => ∃ (x5_1 : Int), v5 = .int .i64 x5_1 ∧ Aside0 (truffleref06_Same.l0 kq l0 l1 x5_1 = some r) ∧ Aside0 (kq ≤ k) ∧ Drawn0 w w')
    case atStart => exact ⟨(0), (by first | rfl | (simp; done) | (simp [*]; done)), H', ⟨Nat.le_refl _⟩, by repeat (first | exact Drawn0.refl _ | apply Drawn0.step)⟩
    case round =>
      clear H'
      try clear c1
      try clear p2
      try clear c3
      try clear c3b0
      try clear c3b1
      try clear c3b2
      obtain ⟨x5_1, rfl, HA, HK1, ⟨m1, rfl⟩⟩ := hrel
      cases gk with
      | zero => exact absurd HA.out (by simp [truffleref06_Same.l0])
      | succ k1 =>
        have H := HA.out
        clear HA
        simp only [truffleref06_Same.l0] at H
        by_cases c4 : x5_1 < (l0.length : Int)
        · rw [if_pos c4] at H
          have c4b0 : decide (x5_1 < (l0.length : Int)) = true := decide_eq_true c4
          clear c4
          by_cases c5 : 0 ≤ x5_1
          · rw [if_pos c5] at H
            have c5b0 : decide (0 ≤ x5_1) = true := decide_eq_true c5
            clear c5
            by_cases c6 : x5_1 < (l1.length : Int)
            · rw [if_pos c6] at H
              have c6b0 : decide (x5_1 < (l1.length : Int)) = true := decide_eq_true c6
              clear c6
              by_cases c7 : (!(((rd_T29 l0 x5_1).f0) == ((rd_T29 l1 x5_1).f0)) || (!((((rd_T29 l0 x5_1).f1).toList) == (((rd_T29 l1 x5_1).f1).toList)) || (!(((rd_T29 l0 x5_1).f2) == ((rd_T29 l1 x5_1).f2)) || (!(((rd_T29 l0 x5_1).f3) == ((rd_T29 l1 x5_1).f3)))))) = true
              · rw [if_pos c7] at H
                have c7b0 : (!(((rd_T29 l0 x5_1).f0) == ((rd_T29 l1 x5_1).f0)) || (!((((rd_T29 l0 x5_1).f1).toList) == (((rd_T29 l1 x5_1).f1).toList)) || (!(((rd_T29 l0 x5_1).f2) == ((rd_T29 l1 x5_1).f2)) || (!(((rd_T29 l0 x5_1).f3) == ((rd_T29 l1 x5_1).f3)))))) = true := c7
                clear c7
                obtain rfl := Option.some.inj H
                have p148 : 0 ≤ (x5_1 : Int) := of_decide_eq_true (by first | (with_reducible assumption) | assumption)
                have q148 : x5_1 < (l0.length : Int) := of_decide_eq_true (by first | (with_reducible assumption) | assumption)
                obtain ⟨ad148, e148, hx148_0, hx148_1, hx148_2, hx148_3⟩ := at_T29 HR0.out x5_1 p148 q148
                cases e148
                replace p148 := eq_true p148
                replace q148 := eq_true q148
                have p149 : 0 ≤ (x5_1 : Int) := of_decide_eq_true (by first | (with_reducible assumption) | assumption)
                have q149 : x5_1 < (l1.length : Int) := of_decide_eq_true (by first | (with_reducible assumption) | assumption)
                obtain ⟨ad149, e149, hx149_0, hx149_1, hx149_2, hx149_3⟩ := at_T29 HR1.out x5_1 p149 q149
                cases e149
                replace p149 := eq_true p149
                replace q149 := eq_true q149
                go_wp2
                repeat (go_quiet (fail); try go_wp2)
                go_ret
                exact ⟨by first | rfl | (simp; done) | (simp [*]; done), by repeat (first | exact Drawn0.refl _ | apply Drawn0.step)⟩
              · rw [if_neg c7] at H
                have c7b0 : (!(((rd_T29 l0 x5_1).f0) == ((rd_T29 l1 x5_1).f0)) || (!((((rd_T29 l0 x5_1).f1).toList) == (((rd_T29 l1 x5_1).f1).toList)) || (!(((rd_T29 l0 x5_1).f2) == ((rd_T29 l1 x5_1).f2)) || (!(((rd_T29 l0 x5_1).f3) == ((rd_T29 l1 x5_1).f3)))))) = false := by simpa using c7
                clear c7
                have H' := Aside0.mk H
                clear H
                have p148 : 0 ≤ (x5_1 : Int) := of_decide_eq_true (by first | (with_reducible assumption) | assumption)
                have q148 : x5_1 < (l0.length : Int) := of_decide_eq_true (by first | (with_reducible assumption) | assumption)
                obtain ⟨ad148, e148, hx148_0, hx148_1, hx148_2, hx148_3⟩ := at_T29 HR0.out x5_1 p148 q148
                cases e148
                replace p148 := eq_true p148
                replace q148 := eq_true q148
                have p149 : 0 ≤ (x5_1 : Int) := of_decide_eq_true (by first | (with_reducible assumption) | assumption)
                have q149 : x5_1 < (l1.length : Int) := of_decide_eq_true (by first | (with_reducible assumption) | assumption)
                obtain ⟨ad149, e149, hx149_0, hx149_1, hx149_2, hx149_3⟩ := at_T29 HR1.out x5_1 p149 q149
                cases e149
                replace p149 := eq_true p149
                replace q149 := eq_true q149
                go_wp2
                repeat (go_quiet (fail); try go_wp2)
                go_roundg k1
                case measure => have := HK1.out; omega
                case rel => exact ⟨(wrap64 (x5_1 + 1)), (by first | rfl | (simp; done) | (simp [*]; done)), H', ⟨by have := HK1.out; omega⟩, by repeat (first | exact Drawn0.refl _ | apply Drawn0.step)⟩
            · rw [if_neg c6] at H
              exact absurd H (by simp)
          · rw [if_neg c5] at H
            exact absurd H (by simp)
        · rw [if_neg c4] at H
          have c4b0 : decide (x5_1 < (l0.length : Int)) = false := decide_eq_false c4
          clear c4
          obtain rfl := Option.some.inj H
          go_wp2
          repeat (go_quiet (fail); try go_wp2)
          go_ret
          exact ⟨by first | rfl | (simp; done) | (simp [*]; done), by repeat (first | exact Drawn0.refl _ | apply Drawn0.step)⟩
  · rw [if_neg c3] at H
    have c3b0 : ((l0.length : Int) == (l1.length : Int)) = false := beq_eq_false_iff_ne.mpr c3
    have c3b1 : ((l0.length : Int) != (l1.length : Int)) = true := bne_iff_ne.mpr c3
    have c3b2 : (l0.length == l1.length) = false := by first | simpa using c3 | (simp at c3 ⊢; omega)
    obtain rfl := Option.some.inj H
    go_enter Tryd.func17, Tryd.ntmps17
    go_wp2
    repeat (go_quiet (fail); try go_wp2)
    go_ret
    exact ⟨by first | rfl | (simp; done) | (simp [*]; done), by repeat (first | exact Drawn0.refl _ | apply Drawn0.step)⟩
end Go.Proofs.YtngcojabofkbjaaDoor.P
namespace Go.Proofs.YtngcojabofkbjaaDoor.P
open Go.RowKit Go.Proofs.YtngcojabofkbjaaDoorW.PrintWords Go.Proofs.YtngcojabofkbjaaDoorW.PrintLast Go.Proofs.YtngcojabofkbjaaDoorW.PrintMore
set_option linter.unusedVariables false
set_option linter.unusedSimpArgs false
def truffleref06_Digits.f : Nat → Int → Option (ByteArray)
  | 0, _ => none
  | k + 1, a0 => if a0 < 0 then (if a0 = (-9223372036854775808) then (some (⟨#[45, 57, 50, 50, 51, 51, 55, 50, 48, 51, 54, 56, 53, 52, 55, 55, 53, 56, 48, 56]⟩ : ByteArray)) else ((truffleref06_Digits.f k (wrap64 (-a0))).bind fun t202 => (if 1 + t202.size ≤ 9223372036854775807 then (some ((⟨#[45]⟩ : ByteArray) ++ t202)) else (none)))) else (if 0 ≤ (Int.tmod a0 10) then (if (Int.tmod a0 10) ≤ (wrap64 ((Int.tmod a0 10) + 1)) then (if (wrap64 ((Int.tmod a0 10) + 1)) ≤ 10 then (if a0 < 10 then (some ((⟨#[48, 49, 50, 51, 52, 53, 54, 55, 56, 57]⟩ : ByteArray).extract ((Int.tmod a0 10) : Int).toNat ((wrap64 ((Int.tmod a0 10) + 1)) : Int).toNat)) else ((truffleref06_Digits.f k (wrap64 (Int.tdiv a0 10))).bind fun t203 => (if t203.size + ((⟨#[48, 49, 50, 51, 52, 53, 54, 55, 56, 57]⟩ : ByteArray).extract ((Int.tmod a0 10) : Int).toNat ((wrap64 ((Int.tmod a0 10) + 1)) : Int).toNat).size ≤ 9223372036854775807 then (some (t203 ++ ((⟨#[48, 49, 50, 51, 52, 53, 54, 55, 56, 57]⟩ : ByteArray).extract ((Int.tmod a0 10) : Int).toNat ((wrap64 ((Int.tmod a0 10) + 1)) : Int).toNat))) else (none)))) else (none)) else (none)) else (none))
set_option maxHeartbeats 8000000 in
set_option maxRecDepth 100000 in
theorem truffleref06_Digits.calls (k : Nat) : ∀ (a0 : Int) (r : ByteArray) (w : World) (h : truffleref06_Digits.f k a0 = some r),
    Calls Tryd.prog 22 #[.int .i64 a0] w fun e w' => e = .returned (.string r) ∧ Drawn0 w w' := by
  induction k using Nat.strongRecOn with
  | _ k ih =>
  intro a0 r w h
  cases k with
  | zero => exact absurd h (by simp [truffleref06_Digits.f])
  | succ k =>
  simp only [truffleref06_Digits.f] at h
  have H : (if a0 < 0 then (if a0 = (-9223372036854775808) then (some (⟨#[45, 57, 50, 50, 51, 51, 55, 50, 48, 51, 54, 56, 53, 52, 55, 55, 53, 56, 48, 56]⟩ : ByteArray)) else ((truffleref06_Digits.f k (wrap64 (-a0))).bind fun t202 => (if 1 + t202.size ≤ 9223372036854775807 then (some ((⟨#[45]⟩ : ByteArray) ++ t202)) else (none)))) else (if 0 ≤ (Int.tmod a0 10) then (if (Int.tmod a0 10) ≤ (wrap64 ((Int.tmod a0 10) + 1)) then (if (wrap64 ((Int.tmod a0 10) + 1)) ≤ 10 then (if a0 < 10 then (some ((⟨#[48, 49, 50, 51, 52, 53, 54, 55, 56, 57]⟩ : ByteArray).extract ((Int.tmod a0 10) : Int).toNat ((wrap64 ((Int.tmod a0 10) + 1)) : Int).toNat)) else ((truffleref06_Digits.f k (wrap64 (Int.tdiv a0 10))).bind fun t203 => (if t203.size + ((⟨#[48, 49, 50, 51, 52, 53, 54, 55, 56, 57]⟩ : ByteArray).extract ((Int.tmod a0 10) : Int).toNat ((wrap64 ((Int.tmod a0 10) + 1)) : Int).toNat).size ≤ 9223372036854775807 then (some (t203 ++ ((⟨#[48, 49, 50, 51, 52, 53, 54, 55, 56, 57]⟩ : ByteArray).extract ((Int.tmod a0 10) : Int).toNat ((wrap64 ((Int.tmod a0 10) + 1)) : Int).toNat))) else (none)))) else (none)) else (none)) else (none))) = some r := h
  clear h
  by_cases c2 : a0 < 0
  · rw [if_pos c2] at H
    have c2b0 : decide (a0 < 0) = true := decide_eq_true c2
    clear c2
    by_cases c3 : a0 = (-9223372036854775808)
    · rw [if_pos c3] at H
      have c3b0 : (a0 == (-9223372036854775808)) = true := beq_iff_eq.mpr c3
      have c3b1 : (a0 != (-9223372036854775808)) = false := bne_eq_false_iff_eq.mpr c3
      clear c3
      obtain rfl := Option.some.inj H
      go_enter Tryd.func22, Tryd.ntmps22
      go_wp2
      go_ret
      exact ⟨by first | rfl | (simp; done) | (simp [*]; done), by repeat (first | exact Drawn0.refl _ | apply Drawn0.step)⟩
    · rw [if_neg c3] at H
      have c3b0 : (a0 == (-9223372036854775808)) = false := beq_eq_false_iff_ne.mpr c3
      have c3b1 : (a0 != (-9223372036854775808)) = true := bne_iff_ne.mpr c3
      replace H := Option.bind_eq_some_iff.mp H
      obtain ⟨t202, A40, H⟩ := H
      replace H : (if 1 + t202.size ≤ 9223372036854775807 then (some ((⟨#[45]⟩ : ByteArray) ++ t202)) else (none)) = some r := H
      have A4 := Aside0.mk A40
      clear A40
      by_cases c5 : 1 + t202.size ≤ 9223372036854775807
      · rw [if_pos c5] at H
        have c5b0 := eq_true c5
        have c5b1 : decide (1 + t202.size ≤ 9223372036854775807) = true := decide_eq_true c5
        try have c5b2 : (9223372036854775807 < 1 + t202.size) = False := eq_false (Nat.not_lt.2 c5)
        obtain rfl := Option.some.inj H
        go_enter Tryd.func22, Tryd.ntmps22
        go_wp2_with (first | ((with_reducible refine gate_callee (f := 22) rfl ?_); refine goesL_ (some 10) rfl rfl Tryd.func22 (by kernel_rfl) rfl #[.int .i64 (wrap64 (-a0))] rfl (by (try simp only [List.map_toArray, List.map_cons, List.map_nil]); first | done | rfl | (simp only [List.length_drop, List.length_take]; rfl)) ?_; (with_reducible refine (ih k (by omega) (wrap64 (-a0)) t202 _ A4.out).mono ?_); rintro e w' ⟨rfl, ⟨nd, rfl⟩⟩; refine ⟨_, rfl, ?_⟩))
        go_ret
        exact ⟨by first | rfl | (simp; done) | (simp [*]; done), by repeat (first | exact Drawn0.refl _ | apply Drawn0.step)⟩
      · rw [if_neg c5] at H
        exact absurd H (by simp)
  · rw [if_neg c2] at H
    have c2b0 : decide (a0 < 0) = false := decide_eq_false c2
    clear c2
    obtain ⟨ji6, hji6⟩ : ∃ j_ : Int, (Int.tmod a0 10) = j_ := ⟨_, rfl⟩
    replace H : (if 0 ≤ (ji6) then (if (ji6) ≤ (wrap64 ((ji6) + 1)) then (if (wrap64 ((ji6) + 1)) ≤ 10 then (if a0 < 10 then (some ((⟨#[48, 49, 50, 51, 52, 53, 54, 55, 56, 57]⟩ : ByteArray).extract ((ji6) : Int).toNat ((wrap64 ((ji6) + 1)) : Int).toNat)) else ((truffleref06_Digits.f k (wrap64 (Int.tdiv a0 10))).bind fun t203 => (if t203.size + ((⟨#[48, 49, 50, 51, 52, 53, 54, 55, 56, 57]⟩ : ByteArray).extract ((ji6) : Int).toNat ((wrap64 ((ji6) + 1)) : Int).toNat).size ≤ 9223372036854775807 then (some (t203 ++ ((⟨#[48, 49, 50, 51, 52, 53, 54, 55, 56, 57]⟩ : ByteArray).extract ((ji6) : Int).toNat ((wrap64 ((ji6) + 1)) : Int).toNat))) else (none)))) else (none)) else (none)) else (none)) = some r := by first | (rw [hji6] at H; exact H) | (simp only [hji6] at H ⊢; exact H)
    by_cases c7 : 0 ≤ (ji6)
    · rw [if_pos c7] at H
      have c7b0 := eq_true c7
      have c7b1 : decide (0 ≤ (ji6)) = true := decide_eq_true c7
      clear c7
      by_cases c8 : (ji6) ≤ (wrap64 ((ji6) + 1))
      · rw [if_pos c8] at H
        have c8b0 := eq_true c8
        have c8b1 : decide ((ji6) ≤ (wrap64 ((ji6) + 1))) = true := decide_eq_true c8
        by_cases c9 : (wrap64 ((ji6) + 1)) ≤ 10
        · rw [if_pos c9] at H
          have c9b0 := eq_true c9
          have c9b1 : decide ((wrap64 ((ji6) + 1)) ≤ 10) = true := decide_eq_true c9
          by_cases c10 : a0 < 10
          · rw [if_pos c10] at H
            have c10b0 : decide (a0 < 10) = true := decide_eq_true c10
            clear c10
            obtain rfl := Option.some.inj H
            go_enter Tryd.func22, Tryd.ntmps22
            go_wp2
            go_ret
            exact ⟨by first | rfl | (simp; done) | (simp only [← hji6] <;> (first | rfl | simp)) | (simp [*]; done), by repeat (first | exact Drawn0.refl _ | apply Drawn0.step)⟩
          · rw [if_neg c10] at H
            have c10b0 : decide (a0 < 10) = false := decide_eq_false c10
            clear c10
            replace H := Option.bind_eq_some_iff.mp H
            obtain ⟨t203, A110, H⟩ := H
            replace H : (if t203.size + ((⟨#[48, 49, 50, 51, 52, 53, 54, 55, 56, 57]⟩ : ByteArray).extract ((ji6) : Int).toNat ((wrap64 ((ji6) + 1)) : Int).toNat).size ≤ 9223372036854775807 then (some (t203 ++ ((⟨#[48, 49, 50, 51, 52, 53, 54, 55, 56, 57]⟩ : ByteArray).extract ((ji6) : Int).toNat ((wrap64 ((ji6) + 1)) : Int).toNat))) else (none)) = some r := H
            have A11 := Aside0.mk A110
            clear A110
            by_cases c12 : t203.size + ((⟨#[48, 49, 50, 51, 52, 53, 54, 55, 56, 57]⟩ : ByteArray).extract ((ji6) : Int).toNat ((wrap64 ((ji6) + 1)) : Int).toNat).size ≤ 9223372036854775807
            · rw [if_pos c12] at H
              have c12b0 := eq_true c12
              have c12b1 : decide (t203.size + ((⟨#[48, 49, 50, 51, 52, 53, 54, 55, 56, 57]⟩ : ByteArray).extract ((ji6) : Int).toNat ((wrap64 ((ji6) + 1)) : Int).toNat).size ≤ 9223372036854775807) = true := decide_eq_true c12
              try have c12b2 : (9223372036854775807 < t203.size + ((⟨#[48, 49, 50, 51, 52, 53, 54, 55, 56, 57]⟩ : ByteArray).extract ((ji6) : Int).toNat ((wrap64 ((ji6) + 1)) : Int).toNat).size) = False := eq_false (Nat.not_lt.2 c12)
              obtain rfl := Option.some.inj H
              go_enter Tryd.func22, Tryd.ntmps22
              go_wp2_with (first | ((with_reducible refine gate_callee (f := 22) rfl ?_); refine goesL_ (some 23) rfl rfl Tryd.func22 (by kernel_rfl) rfl #[.int .i64 (wrap64 (Int.tdiv a0 10))] rfl (by (try simp only [List.map_toArray, List.map_cons, List.map_nil]); first | done | rfl | (simp only [List.length_drop, List.length_take]; rfl)) ?_; (with_reducible refine (ih k (by omega) (wrap64 (Int.tdiv a0 10)) t203 _ A11.out).mono ?_); rintro e w' ⟨rfl, ⟨nd, rfl⟩⟩; refine ⟨_, rfl, ?_⟩))
              go_ret
              exact ⟨by first | rfl | (simp; done) | (simp only [← hji6] <;> (first | rfl | simp)) | (simp [*]; done), by repeat (first | exact Drawn0.refl _ | apply Drawn0.step)⟩
            · rw [if_neg c12] at H
              exact absurd H (by simp)
        · rw [if_neg c9] at H
          exact absurd H (by simp)
      · rw [if_neg c8] at H
        exact absurd H (by simp)
    · rw [if_neg c7] at H
      exact absurd H (by simp)
end Go.Proofs.YtngcojabofkbjaaDoor.P
namespace Go.Proofs.YtngcojabofkbjaaDoor.P
open Go.RowKit Go.Proofs.YtngcojabofkbjaaDoorW.PrintWords Go.Proofs.YtngcojabofkbjaaDoorW.PrintLast Go.Proofs.YtngcojabofkbjaaDoorW.PrintMore
set_option linter.unusedVariables false
set_option linter.unusedSimpArgs false
mutual
def truffleref06_blank.l0 : Nat → ByteArray → Int → Option (Int)
  | 0, _, _ => none
  | k + 1, x0, x1 => if x1 < (x0.size : Int) then (if 0 ≤ x1 then (if (bt x0 x1) = 32 then (truffleref06_blank.j1 k x0 x1 (bt x0 x1) true) else (if (bt x0 x1) = 9 then (truffleref06_blank.j1 k x0 x1 (bt x0 x1) true) else (if (bt x0 x1) = 10 then (truffleref06_blank.j1 k x0 x1 (bt x0 x1) true) else (truffleref06_blank.j1 k x0 x1 (bt x0 x1) ((bt x0 x1) == 13))))) else (none)) else (some x1)
def truffleref06_blank.j1 : Nat → ByteArray → Int → Int → Bool → Option (Int)
  | 0, _, _, _, _ => none
  | k + 1, x0, x1, x5, x26 => if x26 = true then (truffleref06_blank.l0 k x0 (wrap64 (x1 + 1))) else (if (wrap64 (x1 + 1)) ≥ (x0.size : Int) then (truffleref06_blank.j2 k x0 x1 true) else (if x5 = 47 then (if 0 ≤ (wrap64 (x1 + 1)) then (if (wrap64 (x1 + 1)) < (x0.size : Int) then (truffleref06_blank.j2 k x0 x1 ((bt x0 (wrap64 (x1 + 1))) != 47)) else (none)) else (none)) else (truffleref06_blank.j2 k x0 x1 true)))
def truffleref06_blank.j2 : Nat → ByteArray → Int → Bool → Option (Int)
  | 0, _, _, _ => none
  | k + 1, x0, x1, x44 => if x44 = true then (some x1) else (truffleref06_blank.l1 k x0 x1)
def truffleref06_blank.l1 : Nat → ByteArray → Int → Option (Int)
  | 0, _, _ => none
  | k + 1, x0, x1 => if x1 < (x0.size : Int) then (if 0 ≤ x1 then (if (bt x0 x1) = 10 then (truffleref06_blank.l0 k x0 x1) else (truffleref06_blank.l1 k x0 (wrap64 (x1 + 1)))) else (none)) else (truffleref06_blank.l0 k x0 x1)
end
def truffleref06_blank.f (k : Nat) (a0 : ByteArray) (a1 : Int) : Option (Int) := truffleref06_blank.l0 k a0 a1
set_option maxHeartbeats 8000000 in
set_option maxRecDepth 100000 in
theorem truffleref06_blank.calls (k : Nat) (a0 : ByteArray) (a1 : Int) (r : Int) (w : World) (h : truffleref06_blank.f k a0 a1 = some r) :
    Calls Tryd.prog 39 #[.string a0, .int .i64 a1] w fun e w' => e = .returned (.int .i64 r) ∧ Drawn0 w w' := by
  have H : (truffleref06_blank.l0 k a0 a1) = some r := h
  clear h
  have H' := Aside0.mk H
  clear H
  go_enter Tryd.func39, Tryd.ntmps39
  go_wp2
  go_loopg [1] k (fun kq v1 w' => ∃ (x1_1 : Int), v1 = .int .i64 x1_1 ∧ Aside0 (truffleref06_blank.l0 kq a0 x1_1 = some r) ∧ Aside0 (kq ≤ k) ∧ Drawn0 w w')
  case atStart => exact ⟨(a1), (by first | rfl | (simp; done) | (simp [*]; done)), H', ⟨Nat.le_refl _⟩, by repeat (first | exact Drawn0.refl _ | apply Drawn0.step)⟩
  case round =>
    clear H'
    try clear p2
    obtain ⟨x1_1, rfl, HA, HK1, ⟨m1, rfl⟩⟩ := hrel
    cases gk with
    | zero => exact absurd HA.out (by simp [truffleref06_blank.l0])
    | succ k1 =>
      have H := HA.out
      clear HA
      simp only [truffleref06_blank.l0] at H
      by_cases c3 : x1_1 < (a0.size : Int)
      · rw [if_pos c3] at H
        have c3b0 : decide (x1_1 < (a0.size : Int)) = true := decide_eq_true c3
        clear c3
        by_cases c4 : 0 ≤ x1_1
        · rw [if_pos c4] at H
          have c4b0 : decide (0 ≤ x1_1) = true := decide_eq_true c4
          clear c4
          have HC6 := Aside0.mk H
          clear H
          have p5 : 0 ≤ (x1_1 : Int) := of_decide_eq_true (by first | (with_reducible assumption) | assumption)
          have q5 : x1_1 < (a0.size : Int) := of_decide_eq_true (by first | (with_reducible assumption) | assumption)
          have hx5 := bt_at a0 x1_1
          replace p5 := eq_true p5
          replace q5 := eq_true q5
          go_upto_region 3 with (fail)
          go_cut [26] (fun v26 wc => ∃ (kq : Nat) (x26_5 : Bool), v26 = .bool x26_5 ∧ Aside0 (truffleref06_blank.j1 kq a0 x1_1 (bt a0 x1_1) x26_5 = some r) ∧ Aside0 (kq ≤ k1) ∧ Drawn0 w wc)
          case first =>
            have H := HC6.out
            clear HC6
            by_cases c7 : (bt a0 x1_1) = 32
            · rw [if_pos c7] at H
              have c7b0 : ((bt a0 x1_1) == 32) = true := beq_iff_eq.mpr c7
              have c7b1 : ((bt a0 x1_1) != 32) = false := bne_eq_false_iff_eq.mpr c7
              clear c7
              (first | rw [c7b0] | (simp only [i64_w]; rw [c7b0]) | skip)
              have H' := Aside0.mk H
              clear H
              go_wp2
              go_meet
              case rel => exact ⟨_, (true), (by first | rfl | (simp; done) | (simp [*]; done)), H', ⟨by have := HK1.out; first | omega | exact Nat.le_refl _⟩, by repeat (first | exact Drawn0.refl _ | apply Drawn0.step)⟩
            · rw [if_neg c7] at H
              have c7b0 : ((bt a0 x1_1) == 32) = false := beq_eq_false_iff_ne.mpr c7
              have c7b1 : ((bt a0 x1_1) != 32) = true := bne_iff_ne.mpr c7
              (first | rw [c7b0] | (simp only [i64_w]; rw [c7b0]) | skip)
              by_cases c8 : (bt a0 x1_1) = 9
              · rw [if_pos c8] at H
                have c8b0 : ((bt a0 x1_1) == 9) = true := beq_iff_eq.mpr c8
                have c8b1 : ((bt a0 x1_1) != 9) = false := bne_eq_false_iff_eq.mpr c8
                clear c8
                have H' := Aside0.mk H
                clear H
                go_wp2
                go_meet
                case rel => exact ⟨_, (true), (by first | rfl | (simp; done) | (simp [*]; done)), H', ⟨by have := HK1.out; first | omega | exact Nat.le_refl _⟩, by repeat (first | exact Drawn0.refl _ | apply Drawn0.step)⟩
              · rw [if_neg c8] at H
                have c8b0 : ((bt a0 x1_1) == 9) = false := beq_eq_false_iff_ne.mpr c8
                have c8b1 : ((bt a0 x1_1) != 9) = true := bne_iff_ne.mpr c8
                by_cases c9 : (bt a0 x1_1) = 10
                · rw [if_pos c9] at H
                  have c9b0 : ((bt a0 x1_1) == 10) = true := beq_iff_eq.mpr c9
                  have c9b1 : ((bt a0 x1_1) != 10) = false := bne_eq_false_iff_eq.mpr c9
                  clear c9
                  have H' := Aside0.mk H
                  clear H
                  go_wp2
                  go_meet
                  case rel => exact ⟨_, (true), (by first | rfl | (simp; done) | (simp [*]; done)), H', ⟨by have := HK1.out; first | omega | exact Nat.le_refl _⟩, by repeat (first | exact Drawn0.refl _ | apply Drawn0.step)⟩
                · rw [if_neg c9] at H
                  have c9b0 : ((bt a0 x1_1) == 10) = false := beq_eq_false_iff_ne.mpr c9
                  have c9b1 : ((bt a0 x1_1) != 10) = true := bne_iff_ne.mpr c9
                  have H' := Aside0.mk H
                  clear H
                  go_wp2
                  go_meet
                  case rel => exact ⟨_, (((bt a0 x1_1) == 13)), (by first | rfl | (simp; done) | (simp [*]; done)), H', ⟨by have := HK1.out; first | omega | exact Nat.le_refl _⟩, by repeat (first | exact Drawn0.refl _ | apply Drawn0.step)⟩
          case rest =>
            clear HC6
            try clear p2
            try clear c3
            try clear c3b0
            try clear c4
            try clear c4b0
            try clear p5
            try clear q5
            try clear hx5
            try clear c7
            try clear c7b0
            try clear c7b1
            try clear c8
            try clear c8b0
            try clear c8b1
            try clear c9
            try clear c9b0
            try clear c9b1
            try clear p2
            try clear p5
            try clear q5
            obtain ⟨kq, x26_5, rfl, HA, HJ5, ⟨mc5, rfl⟩⟩ := hcut
            cases kq with
            | zero => exact absurd HA.out (by simp [truffleref06_blank.j1])
            | succ kj5 =>
              have H := HA.out
              clear HA
              simp only [truffleref06_blank.j1] at H
              by_cases c10 : x26_5 = true
              · subst c10
                have H1 : (truffleref06_blank.l0 kj5 a0 (wrap64 (x1_1 + 1))) = some r := by rw [if_pos rfl] at H; exact H
                clear H
                have H := H1
                clear H1
                have H' := Aside0.mk H
                clear H
                go_wp2
                go_roundg kj5
                case measure => have := HK1.out; have := HJ5.out; omega
                case rel => exact ⟨(wrap64 (x1_1 + 1)), (by first | rfl | (simp; done) | (simp [*]; done)), H', ⟨by have := HK1.out; have := HJ5.out; omega⟩, by repeat (first | exact Drawn0.refl _ | apply Drawn0.step)⟩
              · replace c10 := Bool.eq_false_iff.mpr c10
                subst c10
                have H1 : (if (wrap64 (x1_1 + 1)) ≥ (a0.size : Int) then (truffleref06_blank.j2 kj5 a0 x1_1 true) else (if (bt a0 x1_1) = 47 then (if 0 ≤ (wrap64 (x1_1 + 1)) then (if (wrap64 (x1_1 + 1)) < (a0.size : Int) then (truffleref06_blank.j2 kj5 a0 x1_1 ((bt a0 (wrap64 (x1_1 + 1))) != 47)) else (none)) else (none)) else (truffleref06_blank.j2 kj5 a0 x1_1 true))) = some r := by rw [if_neg (show ¬ (false = true) by decide)] at H; exact H
                clear H
                have H := H1
                clear H1
                have HC11 := Aside0.mk H
                clear H
                go_upto_region 5 with (fail)
                go_cut [44] (fun v44 wc => ∃ (kq : Nat) (x44_10 : Bool), v44 = .bool x44_10 ∧ Aside0 (truffleref06_blank.j2 kq a0 x1_1 x44_10 = some r) ∧ Aside0 (kq ≤ kj5) ∧ Drawn0 w wc)
                case first =>
                  have H := HC11.out
                  clear HC11
                  by_cases c12 : (wrap64 (x1_1 + 1)) ≥ (a0.size : Int)
                  · rw [if_pos c12] at H
                    have c12b0 : decide ((a0.size : Int) ≤ (wrap64 (x1_1 + 1))) = true := decide_eq_true c12
                    clear c12
                    (first | rw [c12b0] | (simp only [i64_w]; rw [c12b0]) | skip)
                    have H' := Aside0.mk H
                    clear H
                    go_wp2
                    go_meet
                    case rel => exact ⟨_, (true), (by first | rfl | (simp; done) | (simp [*]; done)), H', ⟨by have := HK1.out; have := HJ5.out; first | omega | exact Nat.le_refl _⟩, by repeat (first | exact Drawn0.refl _ | apply Drawn0.step)⟩
                  · rw [if_neg c12] at H
                    have c12b0 : decide ((a0.size : Int) ≤ (wrap64 (x1_1 + 1))) = false := decide_eq_false c12
                    clear c12
                    (first | rw [c12b0] | (simp only [i64_w]; rw [c12b0]) | skip)
                    by_cases c13 : (bt a0 x1_1) = 47
                    · rw [if_pos c13] at H
                      have c13b0 : ((bt a0 x1_1) == 47) = true := beq_iff_eq.mpr c13
                      have c13b1 : ((bt a0 x1_1) != 47) = false := bne_eq_false_iff_eq.mpr c13
                      clear c13
                      obtain ⟨ji14, hji14⟩ : ∃ j_ : Int, (wrap64 (x1_1 + 1)) = j_ := ⟨_, rfl⟩
                      replace H : (if 0 ≤ (ji14) then (if (ji14) < (a0.size : Int) then (truffleref06_blank.j2 kj5 a0 x1_1 ((bt a0 (ji14)) != 47)) else (none)) else (none)) = some r := by first | (rw [hji14] at H; exact H) | (simp only [hji14] at H ⊢; exact H)
                      (try rw [hji14] at c12b0)
                      have hji14w : (IntKind.i64.wrap (x1_1 + 1)) = ji14 := (i64_w _).trans hji14
                      by_cases c15 : 0 ≤ (ji14)
                      · rw [if_pos c15] at H
                        have c15b0 : decide (0 ≤ (ji14)) = true := decide_eq_true c15
                        clear c15
                        by_cases c16 : (ji14) < (a0.size : Int)
                        · rw [if_pos c16] at H
                          have c16b0 : decide ((ji14) < (a0.size : Int)) = true := decide_eq_true c16
                          clear c16
                          have H' := Aside0.mk H
                          clear H
                          have p17 : 0 ≤ ((ji14) : Int) := of_decide_eq_true (by first | (with_reducible assumption) | assumption)
                          have q17 : (ji14) < (a0.size : Int) := of_decide_eq_true (by first | (with_reducible assumption) | assumption)
                          have hx17 := bt_at a0 (ji14)
                          replace p17 := eq_true p17
                          replace q17 := eq_true q17
                          go_wp2
                          go_meet
                          case rel => exact ⟨_, (((bt a0 (ji14)) != 47)), (by first | rfl | (simp; done) | (simp only [← hji14] <;> (first | rfl | simp)) | (simp [*]; done)), H', ⟨by have := HK1.out; have := HJ5.out; first | omega | exact Nat.le_refl _⟩, by repeat (first | exact Drawn0.refl _ | apply Drawn0.step)⟩
                        · rw [if_neg c16] at H
                          exact absurd H (by simp)
                      · rw [if_neg c15] at H
                        exact absurd H (by simp)
                    · rw [if_neg c13] at H
                      have c13b0 : ((bt a0 x1_1) == 47) = false := beq_eq_false_iff_ne.mpr c13
                      have c13b1 : ((bt a0 x1_1) != 47) = true := bne_iff_ne.mpr c13
                      have H' := Aside0.mk H
                      clear H
                      go_wp2
                      go_meet
                      case rel => exact ⟨_, (true), (by first | rfl | (simp; done) | (simp [*]; done)), H', ⟨by have := HK1.out; have := HJ5.out; first | omega | exact Nat.le_refl _⟩, by repeat (first | exact Drawn0.refl _ | apply Drawn0.step)⟩
                case rest =>
                  clear HC11
                  try clear c1
                  try clear p1
                  try clear q1
                  try clear hx1
                  try clear p2
                  try clear c3
                  try clear c3b0
                  try clear c4
                  try clear c4b0
                  try clear c5
                  try clear p5
                  try clear q5
                  try clear hx5
                  try clear p6
                  try clear c7
                  try clear c7b0
                  try clear c7b1
                  try clear c8
                  try clear c8b0
                  try clear c8b1
                  try clear c9
                  try clear c9b0
                  try clear c9b1
                  try clear c10
                  try clear c12
                  try clear c12b0
                  try clear c13
                  try clear c13b0
                  try clear c13b1
                  try clear c15
                  try clear c15b0
                  try clear c16
                  try clear c16b0
                  try clear p17
                  try clear q17
                  try clear hx17
                  try clear p17
                  try clear p2
                  try clear p5
                  try clear q17
                  try clear q5
                  obtain ⟨kq, x44_10, rfl, HA, HJ10, ⟨mc10, rfl⟩⟩ := hcut
                  cases kq with
                  | zero => exact absurd HA.out (by simp [truffleref06_blank.j2])
                  | succ kj10 =>
                    have H := HA.out
                    clear HA
                    simp only [truffleref06_blank.j2] at H
                    by_cases c18 : x44_10 = true
                    · subst c18
                      have H1 : (some x1_1) = some r := by rw [if_pos rfl] at H; exact H
                      clear H
                      have H := H1
                      clear H1
                      obtain rfl := Option.some.inj H
                      go_wp2
                      go_ret
                      exact ⟨by first | rfl | (simp; done) | (simp [*]; done), by repeat (first | exact Drawn0.refl _ | apply Drawn0.step)⟩
                    · replace c18 := Bool.eq_false_iff.mpr c18
                      subst c18
                      have H1 : (truffleref06_blank.l1 kj10 a0 x1_1) = some r := by rw [if_neg (show ¬ (false = true) by decide)] at H; exact H
                      clear H
                      have H := H1
                      clear H1
                      have H' := Aside0.mk H
                      clear H
                      go_wp2
                      go_loopg [1] kj10 (fun kq v1 w' => ∃ (x1_4 : Int), v1 = .int .i64 x1_4 ∧ Aside0 (truffleref06_blank.l1 kq a0 x1_4 = some r) ∧ Aside0 (kq ≤ kj10) ∧ Drawn0 w w')
                      case atStart => exact ⟨(x1_1), (by first | rfl | (simp; done) | (simp [*]; done)), H', ⟨Nat.le_refl _⟩, by repeat (first | exact Drawn0.refl _ | apply Drawn0.step)⟩
                      case round =>
                        clear H'
                        try clear c1
                        try clear p1
                        try clear q1
                        try clear hx1
                        try clear p2
                        try clear c3
                        try clear c3b0
                        try clear c4
                        try clear c4b0
                        try clear c5
                        try clear p5
                        try clear q5
                        try clear hx5
                        try clear p6
                        try clear c7
                        try clear c7b0
                        try clear c7b1
                        try clear c8
                        try clear c8b0
                        try clear c8b1
                        try clear c9
                        try clear c9b0
                        try clear c9b1
                        try clear c10
                        try clear c12
                        try clear c12b0
                        try clear c13
                        try clear c13b0
                        try clear c13b1
                        try clear c15
                        try clear c15b0
                        try clear c16
                        try clear c16b0
                        try clear p17
                        try clear q17
                        try clear hx17
                        try clear c18
                        try clear p1
                        try clear p17
                        try clear p2
                        try clear p5
                        try clear p6
                        try clear q1
                        try clear q17
                        try clear q5
                        obtain ⟨x1_4, rfl, HA, HK4, ⟨m4, rfl⟩⟩ := hrel
                        cases gk with
                        | zero => exact absurd HA.out (by simp [truffleref06_blank.l1])
                        | succ k4 =>
                          have H := HA.out
                          clear HA
                          simp only [truffleref06_blank.l1] at H
                          by_cases c19 : x1_4 < (a0.size : Int)
                          · rw [if_pos c19] at H
                            have c19b0 : decide (x1_4 < (a0.size : Int)) = true := decide_eq_true c19
                            clear c19
                            by_cases c20 : 0 ≤ x1_4
                            · rw [if_pos c20] at H
                              have c20b0 : decide (0 ≤ x1_4) = true := decide_eq_true c20
                              clear c20
                              by_cases c22 : (bt a0 x1_4) = 10
                              · rw [if_pos c22] at H
                                have c22b0 : ((bt a0 x1_4) == 10) = true := beq_iff_eq.mpr c22
                                have c22b1 : ((bt a0 x1_4) != 10) = false := bne_eq_false_iff_eq.mpr c22
                                clear c22
                                have H' := Aside0.mk H
                                clear H
                                have p21 : 0 ≤ (x1_4 : Int) := of_decide_eq_true (by first | (with_reducible assumption) | assumption)
                                have q21 : x1_4 < (a0.size : Int) := of_decide_eq_true (by first | (with_reducible assumption) | assumption)
                                have hx21 := bt_at a0 x1_4
                                replace p21 := eq_true p21
                                replace q21 := eq_true q21
                                go_wp2
                                go_roundg k4
                                case measure => have := HK1.out; have := HJ5.out; have := HJ10.out; have := HK4.out; omega
                                case rel => exact ⟨(x1_4), (by first | rfl | (simp; done) | (simp [*]; done)), H', ⟨by have := HK1.out; have := HJ5.out; have := HJ10.out; have := HK4.out; omega⟩, by repeat (first | exact Drawn0.refl _ | apply Drawn0.step)⟩
                              · rw [if_neg c22] at H
                                have c22b0 : ((bt a0 x1_4) == 10) = false := beq_eq_false_iff_ne.mpr c22
                                have c22b1 : ((bt a0 x1_4) != 10) = true := bne_iff_ne.mpr c22
                                have H' := Aside0.mk H
                                clear H
                                have p21 : 0 ≤ (x1_4 : Int) := of_decide_eq_true (by first | (with_reducible assumption) | assumption)
                                have q21 : x1_4 < (a0.size : Int) := of_decide_eq_true (by first | (with_reducible assumption) | assumption)
                                have hx21 := bt_at a0 x1_4
                                replace p21 := eq_true p21
                                replace q21 := eq_true q21
                                go_wp2
                                go_roundg k4
                                case measure => have := HK1.out; have := HJ5.out; have := HJ10.out; have := HK4.out; omega
                                case rel => exact ⟨(wrap64 (x1_4 + 1)), (by first | rfl | (simp; done) | (simp [*]; done)), H', ⟨by have := HK1.out; have := HJ5.out; have := HJ10.out; have := HK4.out; omega⟩, by repeat (first | exact Drawn0.refl _ | apply Drawn0.step)⟩
                            · rw [if_neg c20] at H
                              exact absurd H (by simp)
                          · rw [if_neg c19] at H
                            have c19b0 : decide (x1_4 < (a0.size : Int)) = false := decide_eq_false c19
                            clear c19
                            have H' := Aside0.mk H
                            clear H
                            go_wp2
                            go_roundg k4
                            case measure => have := HK1.out; have := HJ5.out; have := HJ10.out; have := HK4.out; omega
                            case rel => exact ⟨(x1_4), (by first | rfl | (simp; done) | (simp [*]; done)), H', ⟨by have := HK1.out; have := HJ5.out; have := HJ10.out; have := HK4.out; omega⟩, by repeat (first | exact Drawn0.refl _ | apply Drawn0.step)⟩
        · rw [if_neg c4] at H
          exact absurd H (by simp)
      · rw [if_neg c3] at H
        have c3b0 : decide (x1_1 < (a0.size : Int)) = false := decide_eq_false c3
        clear c3
        obtain rfl := Option.some.inj H
        go_wp2
        go_ret
        exact ⟨by first | rfl | (simp; done) | (simp [*]; done), by repeat (first | exact Drawn0.refl _ | apply Drawn0.step)⟩
end Go.Proofs.YtngcojabofkbjaaDoor.P
namespace Go.Proofs.YtngcojabofkbjaaDoor.P
open Go.RowKit Go.Proofs.YtngcojabofkbjaaDoorW.PrintWords Go.Proofs.YtngcojabofkbjaaDoorW.PrintLast Go.Proofs.YtngcojabofkbjaaDoorW.PrintMore
set_option linter.unusedVariables false
set_option linter.unusedSimpArgs false
def truffleref06_letter.f (a0 : Int) : Option (Bool) := if a0 ≥ 97 then (if a0 ≤ 122 then (some true) else (if a0 ≥ 65 then (if a0 ≤ 90 then (some true) else (some (a0 == 95))) else (some (a0 == 95)))) else (if a0 ≥ 65 then (if a0 ≤ 90 then (some true) else (some (a0 == 95))) else (some (a0 == 95)))
set_option maxHeartbeats 8000000 in
set_option maxRecDepth 100000 in
theorem truffleref06_letter.calls (a0 : Int) (r : Bool) (w : World) (h : truffleref06_letter.f a0 = some r) :
    Calls Tryd.prog 63 #[.int .u8 a0] w fun e w' => e = .returned (.bool r) ∧ Drawn0 w w' := by
  have H : (if a0 ≥ 97 then (if a0 ≤ 122 then (some true) else (if a0 ≥ 65 then (if a0 ≤ 90 then (some true) else (some (a0 == 95))) else (some (a0 == 95)))) else (if a0 ≥ 65 then (if a0 ≤ 90 then (some true) else (some (a0 == 95))) else (some (a0 == 95)))) = some r := h
  clear h
  by_cases c2 : a0 ≥ 97
  · rw [if_pos c2] at H
    have c2b0 : decide (97 ≤ a0) = true := decide_eq_true c2
    clear c2
    by_cases c3 : a0 ≤ 122
    · rw [if_pos c3] at H
      have c3b0 : decide (a0 ≤ 122) = true := decide_eq_true c3
      clear c3
      obtain rfl := Option.some.inj H
      go_enter Tryd.func63, Tryd.ntmps63
      go_wp2
      go_ret
      exact ⟨by first | rfl | (simp; done) | (simp [*]; done), by repeat (first | exact Drawn0.refl _ | apply Drawn0.step)⟩
    · rw [if_neg c3] at H
      have c3b0 : decide (a0 ≤ 122) = false := decide_eq_false c3
      clear c3
      by_cases c4 : a0 ≥ 65
      · rw [if_pos c4] at H
        have c4b0 : decide (65 ≤ a0) = true := decide_eq_true c4
        clear c4
        by_cases c5 : a0 ≤ 90
        · rw [if_pos c5] at H
          have c5b0 : decide (a0 ≤ 90) = true := decide_eq_true c5
          clear c5
          obtain rfl := Option.some.inj H
          go_enter Tryd.func63, Tryd.ntmps63
          go_wp2
          go_ret
          exact ⟨by first | rfl | (simp; done) | (simp [*]; done), by repeat (first | exact Drawn0.refl _ | apply Drawn0.step)⟩
        · rw [if_neg c5] at H
          have c5b0 : decide (a0 ≤ 90) = false := decide_eq_false c5
          clear c5
          obtain rfl := Option.some.inj H
          go_enter Tryd.func63, Tryd.ntmps63
          go_wp2
          go_ret
          exact ⟨by first | rfl | (simp; done) | (simp [*]; done), by repeat (first | exact Drawn0.refl _ | apply Drawn0.step)⟩
      · rw [if_neg c4] at H
        have c4b0 : decide (65 ≤ a0) = false := decide_eq_false c4
        clear c4
        obtain rfl := Option.some.inj H
        go_enter Tryd.func63, Tryd.ntmps63
        go_wp2
        go_ret
        exact ⟨by first | rfl | (simp; done) | (simp [*]; done), by repeat (first | exact Drawn0.refl _ | apply Drawn0.step)⟩
  · rw [if_neg c2] at H
    have c2b0 : decide (97 ≤ a0) = false := decide_eq_false c2
    clear c2
    by_cases c6 : a0 ≥ 65
    · rw [if_pos c6] at H
      have c6b0 : decide (65 ≤ a0) = true := decide_eq_true c6
      clear c6
      by_cases c7 : a0 ≤ 90
      · rw [if_pos c7] at H
        have c7b0 : decide (a0 ≤ 90) = true := decide_eq_true c7
        clear c7
        obtain rfl := Option.some.inj H
        go_enter Tryd.func63, Tryd.ntmps63
        go_wp2
        go_ret
        exact ⟨by first | rfl | (simp; done) | (simp [*]; done), by repeat (first | exact Drawn0.refl _ | apply Drawn0.step)⟩
      · rw [if_neg c7] at H
        have c7b0 : decide (a0 ≤ 90) = false := decide_eq_false c7
        clear c7
        obtain rfl := Option.some.inj H
        go_enter Tryd.func63, Tryd.ntmps63
        go_wp2
        go_ret
        exact ⟨by first | rfl | (simp; done) | (simp [*]; done), by repeat (first | exact Drawn0.refl _ | apply Drawn0.step)⟩
    · rw [if_neg c6] at H
      have c6b0 : decide (65 ≤ a0) = false := decide_eq_false c6
      clear c6
      obtain rfl := Option.some.inj H
      go_enter Tryd.func63, Tryd.ntmps63
      go_wp2
      go_ret
      exact ⟨by first | rfl | (simp; done) | (simp [*]; done), by repeat (first | exact Drawn0.refl _ | apply Drawn0.step)⟩
end Go.Proofs.YtngcojabofkbjaaDoor.P
namespace Go.Proofs.YtngcojabofkbjaaDoor.P
open Go.RowKit Go.Proofs.YtngcojabofkbjaaDoorW.PrintWords Go.Proofs.YtngcojabofkbjaaDoorW.PrintLast Go.Proofs.YtngcojabofkbjaaDoorW.PrintMore
set_option linter.unusedVariables false
set_option linter.unusedSimpArgs false
def truffleref06_digit.f (a0 : Int) : Option (Bool) := if a0 ≥ 48 then (some (decide (a0 ≤ 57))) else (some false)
set_option maxHeartbeats 8000000 in
set_option maxRecDepth 100000 in
theorem truffleref06_digit.calls (a0 : Int) (r : Bool) (w : World) (h : truffleref06_digit.f a0 = some r) :
    Calls Tryd.prog 64 #[.int .u8 a0] w fun e w' => e = .returned (.bool r) ∧ Drawn0 w w' := by
  have H : (if a0 ≥ 48 then (some (decide (a0 ≤ 57))) else (some false)) = some r := h
  clear h
  by_cases c2 : a0 ≥ 48
  · rw [if_pos c2] at H
    have c2b0 : decide (48 ≤ a0) = true := decide_eq_true c2
    clear c2
    obtain rfl := Option.some.inj H
    go_enter Tryd.func64, Tryd.ntmps64
    go_wp2
    go_ret
    exact ⟨by first | rfl | (simp; done) | (simp [*]; done), by repeat (first | exact Drawn0.refl _ | apply Drawn0.step)⟩
  · rw [if_neg c2] at H
    have c2b0 : decide (48 ≤ a0) = false := decide_eq_false c2
    clear c2
    obtain rfl := Option.some.inj H
    go_enter Tryd.func64, Tryd.ntmps64
    go_wp2
    go_ret
    exact ⟨by first | rfl | (simp; done) | (simp [*]; done), by repeat (first | exact Drawn0.refl _ | apply Drawn0.step)⟩
end Go.Proofs.YtngcojabofkbjaaDoor.P
namespace Go.Proofs.YtngcojabofkbjaaDoor.P
open Go.RowKit Go.Proofs.YtngcojabofkbjaaDoorW.PrintWords Go.Proofs.YtngcojabofkbjaaDoorW.PrintLast Go.Proofs.YtngcojabofkbjaaDoorW.PrintMore
set_option linter.unusedVariables false
set_option linter.unusedSimpArgs false
mutual
def truffleref06_number.j0 : Nat → ByteArray → Int → Int → Bool → Option (Int × Bool)
  | 0, _, _, _, _ => none
  | k + 1, x0, x4, x5, x15 => if x15 = true then (truffleref06_number.j1 k x0 x4 1) else (truffleref06_number.j1 k x0 x4 x5)
def truffleref06_number.j1 : Nat → ByteArray → Int → Int → Option (Int × Bool)
  | 0, _, _, _ => none
  | k + 1, x0, x4, x5 => if (x0.size : Int) = x5 then (truffleref06_number.j2 k x0 x4 x5 true) else (truffleref06_number.j2 k x0 x4 x5 (decide ((wrap64 ((x0.size : Int) - x5)) > 19)))
def truffleref06_number.j2 : Nat → ByteArray → Int → Int → Bool → Option (Int × Bool)
  | 0, _, _, _, _ => none
  | k + 1, x0, x4, x5, x26 => if x26 = true then (some (0, false)) else (truffleref06_number.l0 k x0 x4 x5 x5)
def truffleref06_number.l0 : Nat → ByteArray → Int → Int → Int → Option (Int × Bool)
  | 0, _, _, _, _ => none
  | k + 1, x0, x4, x5, x6 => if x6 < (x0.size : Int) then (if 0 ≤ x6 then (truffleref06_number.l0 k x0 (IntKind.u64.wrap ((IntKind.u64.wrap (10 * x4)) + (((bt x0 x6) - 48) % 256))) x5 (wrap64 (x6 + 1))) else (none)) else (if x4 > 9223372036854775808 then (truffleref06_number.j4 k x0 x4 x5 true) else (if x4 = 9223372036854775808 then (truffleref06_number.j4 k x0 x4 x5 (x5 == 0)) else (truffleref06_number.j4 k x0 x4 x5 false)))
def truffleref06_number.j4 : Nat → ByteArray → Int → Int → Bool → Option (Int × Bool)
  | 0, _, _, _, _ => none
  | k + 1, x0, x4, x5, x51 => if x51 = true then (some (0, false)) else (if x5 = 1 then ((truffleref06_Digits.f k (wrap64 (-(wrap64 (x4))))).bind fun t204 => (some (wrap64 (-(wrap64 (x4))), (t204.toList == x0.toList)))) else ((truffleref06_Digits.f k (wrap64 (x4))).bind fun t205 => (some (wrap64 (x4), (t205.toList == x0.toList)))))
end
def truffleref06_number.f (k : Nat) (a0 : ByteArray) : Option (Int × Bool) := if (a0.size : Int) > 0 then (if 0 < (a0.size : Int) then (truffleref06_number.j0 k a0 0 0 ((bt a0 0) == 45)) else (none)) else (truffleref06_number.j0 k a0 0 0 false)
set_option maxHeartbeats 8000000 in
set_option maxRecDepth 100000 in
theorem truffleref06_number.calls (k : Nat) (a0 : ByteArray) (r1 : Int) (r2 : Bool) (w : World) (h : truffleref06_number.f k a0 = some (r1, r2)) :
    Calls Tryd.prog 65 #[.string a0] w fun e w' => e = .returned (.tuple #[.int .i64 r1, .bool r2]) ∧ Drawn0 w w' := by
  have H : (if (a0.size : Int) > 0 then (if 0 < (a0.size : Int) then (truffleref06_number.j0 k a0 0 0 ((bt a0 0) == 45)) else (none)) else (truffleref06_number.j0 k a0 0 0 false)) = some (r1, r2) := h
  clear h
  have HC2 := Aside0.mk H
  clear H
  go_enter Tryd.func65, Tryd.ntmps65
  go_upto_region 3 with (fail)
  go_cut [15] (fun v15 wc => ∃ (kq : Nat) (x15_1 : Bool), v15 = .bool x15_1 ∧ Aside0 (truffleref06_number.j0 kq a0 0 0 x15_1 = some (r1, r2)) ∧ Aside0 (kq ≤ k) ∧ Drawn0 w wc)
  case first =>
    have H := HC2.out
    clear HC2
    by_cases c3 : (a0.size : Int) > 0
    · rw [if_pos c3] at H
      have c3b0 : decide (0 < (a0.size : Int)) = true := decide_eq_true c3
      have c3b1 : decide (0 < a0.size) = true := decide_eq_true (by omega)
      clear c3
      (first | rw [c3b0] | (simp only [i64_w]; rw [c3b0]) | skip)
      by_cases c4 : 0 < (a0.size : Int)
      · rw [if_pos c4] at H
        have c4b0 : decide (0 < (a0.size : Int)) = true := decide_eq_true c4
        have c4b1 : decide (0 < a0.size) = true := decide_eq_true (by omega)
        clear c4
        have H' := Aside0.mk H
        clear H
        have p5 : 0 ≤ (0 : Int) := (by omega)
        have q5 : 0 < a0.size := (by have : (0 : Int) < (a0.size : Int) := of_decide_eq_true (by first | (with_reducible assumption) | assumption); omega)
        have hx5 : ∀ h : 0 < a0.size, ((a0[0]'h).toNat : Int) = bt a0 0 := bt_at a0 0
        clear p5
        have qi5 : (0 < (a0.size : Int)) = True := eq_true (of_decide_eq_true (by first | (with_reducible assumption) | assumption))
        replace q5 := eq_true q5
        go_wp2
        go_meet
        case rel => exact ⟨_, (((bt a0 0) == 45)), (by first | rfl | (simp; done) | (simp [*]; done)), H', ⟨by first | omega | exact Nat.le_refl _⟩, by repeat (first | exact Drawn0.refl _ | apply Drawn0.step)⟩
      · rw [if_neg c4] at H
        exact absurd H (by simp)
    · rw [if_neg c3] at H
      have c3b0 : decide (0 < (a0.size : Int)) = false := decide_eq_false c3
      have c3b1 : decide (0 < a0.size) = false := decide_eq_false (by omega)
      clear c3
      (first | rw [c3b0] | (simp only [i64_w]; rw [c3b0]) | skip)
      have H' := Aside0.mk H
      clear H
      go_wp2
      go_meet
      case rel => exact ⟨_, (false), (by first | rfl | (simp; done) | (simp [*]; done)), H', ⟨by first | omega | exact Nat.le_refl _⟩, by repeat (first | exact Drawn0.refl _ | apply Drawn0.step)⟩
  case rest =>
    clear HC2
    try clear p2
    try clear c3
    try clear c3b0
    try clear c3b1
    try clear c4
    try clear c4b0
    try clear c4b1
    try clear p5
    try clear q5
    try clear hx5
    try clear qi5
    try clear p5
    try clear q5
    obtain ⟨kq, x15_1, rfl, HA, HJ1, ⟨mc1, rfl⟩⟩ := hcut
    cases kq with
    | zero => exact absurd HA.out (by simp [truffleref06_number.j0])
    | succ kj1 =>
      have H := HA.out
      clear HA
      simp only [truffleref06_number.j0] at H
      have HC6 := Aside0.mk H
      clear H
      go_upto_if 15 with (fail)
      go_cut [5] (fun v5 wc => ∃ (kq : Nat) (x5_5 : Int), v5 = .int .i64 x5_5 ∧ Aside0 (truffleref06_number.j1 kq a0 0 x5_5 = some (r1, r2)) ∧ Aside0 (kq ≤ kj1) ∧ Drawn0 w wc)
      case first =>
        have H := HC6.out
        clear HC6
        by_cases c7 : x15_1 = true
        · subst c7
          have H1 : (truffleref06_number.j1 kj1 a0 0 1) = some (r1, r2) := by rw [if_pos rfl] at H; exact H
          clear H
          have H := H1
          clear H1
          have H' := Aside0.mk H
          clear H
          go_wp2
          go_meet
          case rel => exact ⟨_, (1), (by first | rfl | (simp; done) | (simp [*]; done)), H', ⟨by have := HJ1.out; first | omega | exact Nat.le_refl _⟩, by repeat (first | exact Drawn0.refl _ | apply Drawn0.step)⟩
        · replace c7 := Bool.eq_false_iff.mpr c7
          subst c7
          have H1 : (truffleref06_number.j1 kj1 a0 0 0) = some (r1, r2) := by rw [if_neg (show ¬ (false = true) by decide)] at H; exact H
          clear H
          have H := H1
          clear H1
          have H' := Aside0.mk H
          clear H
          go_wp2
          go_meet
          case rel => exact ⟨_, (0), (by first | rfl | (simp; done) | (simp [*]; done)), H', ⟨by have := HJ1.out; first | omega | exact Nat.le_refl _⟩, by repeat (first | exact Drawn0.refl _ | apply Drawn0.step)⟩
      case rest =>
        clear HC6
        try clear c1
        try clear p2
        try clear c3
        try clear c3b0
        try clear c3b1
        try clear c4
        try clear c4b0
        try clear c4b1
        try clear p5
        try clear q5
        try clear hx5
        try clear qi5
        try clear c6
        try clear c7
        try clear p2
        try clear p5
        try clear q5
        obtain ⟨kq, x5_5, rfl, HA, HJ5, ⟨mc5, rfl⟩⟩ := hcut
        cases kq with
        | zero => exact absurd HA.out (by simp [truffleref06_number.j1])
        | succ kj5 =>
          have H := HA.out
          clear HA
          simp only [truffleref06_number.j1] at H
          have HC8 := Aside0.mk H
          clear H
          go_upto_region 5 with (fail)
          go_cut [26] (fun v26 wc => ∃ (kq : Nat) (x26_7 : Bool), v26 = .bool x26_7 ∧ Aside0 (truffleref06_number.j2 kq a0 0 x5_5 x26_7 = some (r1, r2)) ∧ Aside0 (kq ≤ kj5) ∧ Drawn0 w wc)
          case first =>
            have H := HC8.out
            clear HC8
            by_cases c9 : (a0.size : Int) = x5_5
            · rw [if_pos c9] at H
              have c9b0 : ((a0.size : Int) == x5_5) = true := beq_iff_eq.mpr c9
              have c9b1 : ((a0.size : Int) != x5_5) = false := bne_eq_false_iff_eq.mpr c9
              clear c9
              (first | rw [c9b0] | (simp only [i64_w]; rw [c9b0]) | skip)
              have H' := Aside0.mk H
              clear H
              go_wp2
              go_meet
              case rel => exact ⟨_, (true), (by first | rfl | (simp; done) | (simp [*]; done)), H', ⟨by have := HJ1.out; have := HJ5.out; first | omega | exact Nat.le_refl _⟩, by repeat (first | exact Drawn0.refl _ | apply Drawn0.step)⟩
            · rw [if_neg c9] at H
              have c9b0 : ((a0.size : Int) == x5_5) = false := beq_eq_false_iff_ne.mpr c9
              have c9b1 : ((a0.size : Int) != x5_5) = true := bne_iff_ne.mpr c9
              (first | rw [c9b0] | (simp only [i64_w]; rw [c9b0]) | skip)
              have H' := Aside0.mk H
              clear H
              go_wp2
              go_meet
              case rel => exact ⟨_, (decide ((wrap64 ((a0.size : Int) - x5_5)) > 19)), (by first | rfl | (simp; done) | (simp [*]; done)), H', ⟨by have := HJ1.out; have := HJ5.out; first | omega | exact Nat.le_refl _⟩, by repeat (first | exact Drawn0.refl _ | apply Drawn0.step)⟩
          case rest =>
            clear HC8
            try clear c1
            try clear p2
            try clear c3
            try clear c3b0
            try clear c3b1
            try clear c4
            try clear c4b0
            try clear c4b1
            try clear c5
            try clear p5
            try clear q5
            try clear hx5
            try clear qi5
            try clear c6
            try clear p6
            try clear c7
            try clear c9
            try clear c9b0
            try clear c9b1
            try clear p2
            try clear p5
            try clear q5
            obtain ⟨kq, x26_7, rfl, HA, HJ7, ⟨mc7, rfl⟩⟩ := hcut
            cases kq with
            | zero => exact absurd HA.out (by simp [truffleref06_number.j2])
            | succ kj7 =>
              have H := HA.out
              clear HA
              simp only [truffleref06_number.j2] at H
              by_cases c10 : x26_7 = true
              · subst c10
                have H1 : (some (0, false)) = some (r1, r2) := by rw [if_pos rfl] at H; exact H
                clear H
                have H := H1
                clear H1
                simp only [Option.some.injEq, Prod.mk.injEq] at H
                obtain ⟨rfl, rfl⟩ := H
                go_wp2
                go_ret2
                exact ⟨by first | rfl | (simp; done) | (simp [*]; done), by repeat (first | exact Drawn0.refl _ | apply Drawn0.step)⟩
              · replace c10 := Bool.eq_false_iff.mpr c10
                subst c10
                have H1 : (truffleref06_number.l0 kj7 a0 0 x5_5 x5_5) = some (r1, r2) := by rw [if_neg (show ¬ (false = true) by decide)] at H; exact H
                clear H
                have H := H1
                clear H1
                have H' := Aside0.mk H
                clear H
                go_wp2
                go_loopg [4, 6] kj7 (fun kq v4 v6 w' => ∃ (x4_4 : Int) (x6_4 : Int), v4 = .int .u64 x4_4 ∧ v6 = .int .i64 x6_4 ∧ Aside0 (truffleref06_number.l0 kq a0 x4_4 x5_5 x6_4 = some (r1, r2)) ∧ Aside0 (kq ≤ kj7) ∧ Drawn0 w w')
                case atStart => exact ⟨(0), (x5_5), (by first | rfl | (simp; done) | (simp [*]; done)), (by first | rfl | (simp; done) | (simp [*]; done)), H', ⟨Nat.le_refl _⟩, by repeat (first | exact Drawn0.refl _ | apply Drawn0.step)⟩
                case round =>
                  clear H'
                  try clear c1
                  try clear p2
                  try clear c3
                  try clear c3b0
                  try clear c3b1
                  try clear c4
                  try clear c4b0
                  try clear c4b1
                  try clear c5
                  try clear p5
                  try clear q5
                  try clear hx5
                  try clear qi5
                  try clear c6
                  try clear p6
                  try clear c7
                  try clear c9
                  try clear c9b0
                  try clear c9b1
                  try clear c10
                  try clear p2
                  try clear p5
                  try clear p6
                  try clear q5
                  obtain ⟨x4_4, x6_4, rfl, rfl, HA, HK4, ⟨m4, rfl⟩⟩ := hrel
                  cases gk with
                  | zero => exact absurd HA.out (by simp [truffleref06_number.l0])
                  | succ k4 =>
                    have H := HA.out
                    clear HA
                    simp only [truffleref06_number.l0] at H
                    by_cases c11 : x6_4 < (a0.size : Int)
                    · rw [if_pos c11] at H
                      have c11b0 : decide (x6_4 < (a0.size : Int)) = true := decide_eq_true c11
                      clear c11
                      by_cases c12 : 0 ≤ x6_4
                      · rw [if_pos c12] at H
                        have c12b0 : decide (0 ≤ x6_4) = true := decide_eq_true c12
                        clear c12
                        have H' := Aside0.mk H
                        clear H
                        have p13 : 0 ≤ (x6_4 : Int) := of_decide_eq_true (by first | (with_reducible assumption) | assumption)
                        have q13 : x6_4 < (a0.size : Int) := of_decide_eq_true (by first | (with_reducible assumption) | assumption)
                        have hx13 := bt_at a0 x6_4
                        replace p13 := eq_true p13
                        replace q13 := eq_true q13
                        go_wp2
                        go_roundg k4
                        case measure => have := HJ1.out; have := HJ5.out; have := HJ7.out; have := HK4.out; omega
                        case rel => exact ⟨(IntKind.u64.wrap ((IntKind.u64.wrap (10 * x4_4)) + (((bt a0 x6_4) - 48) % 256))), (wrap64 (x6_4 + 1)), (by first | rfl | (simp; done) | (simp [*]; done)), (by first | rfl | (simp; done) | (simp [*]; done)), H', ⟨by have := HJ1.out; have := HJ5.out; have := HJ7.out; have := HK4.out; omega⟩, by repeat (first | exact Drawn0.refl _ | apply Drawn0.step)⟩
                      · rw [if_neg c12] at H
                        exact absurd H (by simp)
                    · rw [if_neg c11] at H
                      have c11b0 : decide (x6_4 < (a0.size : Int)) = false := decide_eq_false c11
                      clear c11
                      have HC14 := Aside0.mk H
                      clear H
                      go_upto_region 11 with (fail)
                      go_cut [51] (fun v51 wc => ∃ (kq : Nat) (x51_13 : Bool), v51 = .bool x51_13 ∧ Aside0 (truffleref06_number.j4 kq a0 x4_4 x5_5 x51_13 = some (r1, r2)) ∧ Aside0 (kq ≤ k4) ∧ Drawn0 w wc)
                      case first =>
                        have H := HC14.out
                        clear HC14
                        by_cases c15 : x4_4 > 9223372036854775808
                        · rw [if_pos c15] at H
                          have c15b0 : decide (9223372036854775808 < x4_4) = true := decide_eq_true c15
                          clear c15
                          (first | rw [c15b0] | (simp only [i64_w]; rw [c15b0]) | skip)
                          have H' := Aside0.mk H
                          clear H
                          go_wp2
                          go_meet
                          case rel => exact ⟨_, (true), (by first | rfl | (simp; done) | (simp [*]; done)), H', ⟨by have := HJ1.out; have := HJ5.out; have := HJ7.out; have := HK4.out; first | omega | exact Nat.le_refl _⟩, by repeat (first | exact Drawn0.refl _ | apply Drawn0.step)⟩
                        · rw [if_neg c15] at H
                          have c15b0 : decide (9223372036854775808 < x4_4) = false := decide_eq_false c15
                          clear c15
                          (first | rw [c15b0] | (simp only [i64_w]; rw [c15b0]) | skip)
                          by_cases c16 : x4_4 = 9223372036854775808
                          · rw [if_pos c16] at H
                            have c16b0 : (x4_4 == 9223372036854775808) = true := beq_iff_eq.mpr c16
                            have c16b1 : (x4_4 != 9223372036854775808) = false := bne_eq_false_iff_eq.mpr c16
                            clear c16
                            have H' := Aside0.mk H
                            clear H
                            go_wp2
                            go_meet
                            case rel => exact ⟨_, ((x5_5 == 0)), (by first | rfl | (simp; done) | (simp [*]; done)), H', ⟨by have := HJ1.out; have := HJ5.out; have := HJ7.out; have := HK4.out; first | omega | exact Nat.le_refl _⟩, by repeat (first | exact Drawn0.refl _ | apply Drawn0.step)⟩
                          · rw [if_neg c16] at H
                            have c16b0 : (x4_4 == 9223372036854775808) = false := beq_eq_false_iff_ne.mpr c16
                            have c16b1 : (x4_4 != 9223372036854775808) = true := bne_iff_ne.mpr c16
                            have H' := Aside0.mk H
                            clear H
                            go_wp2
                            go_meet
                            case rel => exact ⟨_, (false), (by first | rfl | (simp; done) | (simp [*]; done)), H', ⟨by have := HJ1.out; have := HJ5.out; have := HJ7.out; have := HK4.out; first | omega | exact Nat.le_refl _⟩, by repeat (first | exact Drawn0.refl _ | apply Drawn0.step)⟩
                      case rest =>
                        clear HC14
                        try clear c1
                        try clear p1
                        try clear q1
                        try clear hx1
                        try clear p2
                        try clear c3
                        try clear c3b0
                        try clear c3b1
                        try clear c4
                        try clear c4b0
                        try clear c4b1
                        try clear c5
                        try clear p5
                        try clear q5
                        try clear hx5
                        try clear qi5
                        try clear c6
                        try clear p6
                        try clear c7
                        try clear c9
                        try clear c9b0
                        try clear c9b1
                        try clear c10
                        try clear c11
                        try clear c11b0
                        try clear c12
                        try clear c12b0
                        try clear p13
                        try clear q13
                        try clear hx13
                        try clear c15
                        try clear c15b0
                        try clear c16
                        try clear c16b0
                        try clear c16b1
                        try clear p13
                        try clear p2
                        try clear p5
                        try clear p6
                        try clear q13
                        try clear q5
                        obtain ⟨kq, x51_13, rfl, HA, HJ13, ⟨mc13, rfl⟩⟩ := hcut
                        cases kq with
                        | zero => exact absurd HA.out (by simp [truffleref06_number.j4])
                        | succ kj13 =>
                          have H := HA.out
                          clear HA
                          simp only [truffleref06_number.j4] at H
                          by_cases c17 : x51_13 = true
                          · subst c17
                            have H1 : (some (0, false)) = some (r1, r2) := by rw [if_pos rfl] at H; exact H
                            clear H
                            have H := H1
                            clear H1
                            simp only [Option.some.injEq, Prod.mk.injEq] at H
                            obtain ⟨rfl, rfl⟩ := H
                            go_wp2
                            go_ret2
                            exact ⟨by first | rfl | (simp; done) | (simp [*]; done), by repeat (first | exact Drawn0.refl _ | apply Drawn0.step)⟩
                          · replace c17 := Bool.eq_false_iff.mpr c17
                            subst c17
                            have H1 : (if x5_5 = 1 then ((truffleref06_Digits.f kj13 (wrap64 (-(wrap64 (x4_4))))).bind fun t204 => (some (wrap64 (-(wrap64 (x4_4))), (t204.toList == a0.toList)))) else ((truffleref06_Digits.f kj13 (wrap64 (x4_4))).bind fun t205 => (some (wrap64 (x4_4), (t205.toList == a0.toList))))) = some (r1, r2) := by rw [if_neg (show ¬ (false = true) by decide)] at H; exact H
                            clear H
                            have H := H1
                            clear H1
                            by_cases c18 : x5_5 = 1
                            · rw [if_pos c18] at H
                              have c18b0 : (x5_5 == 1) = true := beq_iff_eq.mpr c18
                              have c18b1 : (x5_5 != 1) = false := bne_eq_false_iff_eq.mpr c18
                              clear c18
                              replace H := Option.bind_eq_some_iff.mp H
                              obtain ⟨t204, A190, H⟩ := H
                              replace H : (some (wrap64 (-(wrap64 (x4_4))), (t204.toList == a0.toList))) = some (r1, r2) := H
                              have A19 := Aside0.mk A190
                              clear A190
                              simp only [Option.some.injEq, Prod.mk.injEq] at H
                              obtain ⟨rfl, rfl⟩ := H
                              go_wp2_with (first | ((with_reducible refine gate_callee (f := 22) rfl ?_); refine goesL_ (some 60) rfl rfl Tryd.func22 (by kernel_rfl) rfl #[.int .i64 (wrap64 (-(wrap64 (x4_4))))] rfl (by (try simp only [List.map_toArray, List.map_cons, List.map_nil]); first | done | rfl | (simp only [List.length_drop, List.length_take]; rfl)) ?_; (with_reducible refine (truffleref06_Digits.calls kj13 (wrap64 (-(wrap64 (x4_4)))) t204 _ A19.out).mono ?_); rintro e w' ⟨rfl, ⟨nd, rfl⟩⟩; refine ⟨_, rfl, ?_⟩))
                              go_ret2
                              exact ⟨by first | rfl | (simp; done) | (simp [*]; done), by repeat (first | exact Drawn0.refl _ | apply Drawn0.step)⟩
                            · rw [if_neg c18] at H
                              have c18b0 : (x5_5 == 1) = false := beq_eq_false_iff_ne.mpr c18
                              have c18b1 : (x5_5 != 1) = true := bne_iff_ne.mpr c18
                              replace H := Option.bind_eq_some_iff.mp H
                              obtain ⟨t205, A200, H⟩ := H
                              replace H : (some (wrap64 (x4_4), (t205.toList == a0.toList))) = some (r1, r2) := H
                              have A20 := Aside0.mk A200
                              clear A200
                              simp only [Option.some.injEq, Prod.mk.injEq] at H
                              obtain ⟨rfl, rfl⟩ := H
                              go_wp2_with (first | ((with_reducible refine gate_callee (f := 22) rfl ?_); refine goesL_ (some 60) rfl rfl Tryd.func22 (by kernel_rfl) rfl #[.int .i64 (wrap64 (x4_4))] rfl (by (try simp only [List.map_toArray, List.map_cons, List.map_nil]); first | done | rfl | (simp only [List.length_drop, List.length_take]; rfl)) ?_; (with_reducible refine (truffleref06_Digits.calls kj13 (wrap64 (x4_4)) t205 _ A20.out).mono ?_); rintro e w' ⟨rfl, ⟨nd, rfl⟩⟩; refine ⟨_, rfl, ?_⟩))
                              go_ret2
                              exact ⟨by first | rfl | (simp; done) | (simp [*]; done), by repeat (first | exact Drawn0.refl _ | apply Drawn0.step)⟩
end Go.Proofs.YtngcojabofkbjaaDoor.P
namespace Go.Proofs.YtngcojabofkbjaaDoor.P
open Go.RowKit Go.Proofs.YtngcojabofkbjaaDoorW.PrintWords Go.Proofs.YtngcojabofkbjaaDoorW.PrintLast Go.Proofs.YtngcojabofkbjaaDoorW.PrintMore
set_option linter.unusedVariables false
set_option linter.unusedSimpArgs false
def truffleref06_hex.f (a0 : Int) : Option (Int) := (truffleref06_digit.f a0).bind fun t206 => (if t206 = true then (some ((a0 - 48) % 256)) else (if a0 ≥ 97 then (if a0 ≤ 102 then (some (((a0 - 97) % 256) + 10)) else (some (-1))) else (some (-1))))
set_option maxHeartbeats 8000000 in
set_option maxRecDepth 100000 in
theorem truffleref06_hex.calls (a0 : Int) (r : Int) (w : World) (h : truffleref06_hex.f a0 = some r) :
    Calls Tryd.prog 79 #[.int .u8 a0] w fun e w' => e = .returned (.int .i64 r) ∧ Drawn0 w w' := by
  have H : ((truffleref06_digit.f a0).bind fun t206 => (if t206 = true then (some ((a0 - 48) % 256)) else (if a0 ≥ 97 then (if a0 ≤ 102 then (some (((a0 - 97) % 256) + 10)) else (some (-1))) else (some (-1))))) = some r := h
  clear h
  replace H := Option.bind_eq_some_iff.mp H
  obtain ⟨t206, A20, H⟩ := H
  replace H : (if t206 = true then (some ((a0 - 48) % 256)) else (if a0 ≥ 97 then (if a0 ≤ 102 then (some (((a0 - 97) % 256) + 10)) else (some (-1))) else (some (-1)))) = some r := H
  have A2 := Aside0.mk A20
  clear A20
  by_cases c3 : t206 = true
  · subst c3
    have H1 : (some ((a0 - 48) % 256)) = some r := by rw [if_pos rfl] at H; exact H
    clear H
    have H := H1
    clear H1
    obtain rfl := Option.some.inj H
    go_enter Tryd.func79, Tryd.ntmps79
    go_wp2_with (first | ((with_reducible refine gate_callee (f := 64) rfl ?_); refine goesL_ (some 4) rfl rfl Tryd.func64 (by kernel_rfl) rfl #[.int .u8 a0] rfl (by (try simp only [List.map_toArray, List.map_cons, List.map_nil]); first | done | rfl | (simp only [List.length_drop, List.length_take]; rfl)) ?_; (with_reducible refine (truffleref06_digit.calls a0 true _ A2.out).mono ?_); rintro e w' ⟨rfl, ⟨nd, rfl⟩⟩; refine ⟨_, rfl, ?_⟩))
    go_ret
    exact ⟨by first | rfl | (simp; done) | (simp [*]; done), by repeat (first | exact Drawn0.refl _ | apply Drawn0.step)⟩
  · replace c3 := Bool.eq_false_iff.mpr c3
    subst c3
    have H1 : (if a0 ≥ 97 then (if a0 ≤ 102 then (some (((a0 - 97) % 256) + 10)) else (some (-1))) else (some (-1))) = some r := by rw [if_neg (show ¬ (false = true) by decide)] at H; exact H
    clear H
    have H := H1
    clear H1
    by_cases c4 : a0 ≥ 97
    · rw [if_pos c4] at H
      have c4b0 : decide (97 ≤ a0) = true := decide_eq_true c4
      clear c4
      by_cases c5 : a0 ≤ 102
      · rw [if_pos c5] at H
        have c5b0 : decide (a0 ≤ 102) = true := decide_eq_true c5
        clear c5
        obtain rfl := Option.some.inj H
        go_enter Tryd.func79, Tryd.ntmps79
        go_wp2_with (first | ((with_reducible refine gate_callee (f := 64) rfl ?_); refine goesL_ (some 4) rfl rfl Tryd.func64 (by kernel_rfl) rfl #[.int .u8 a0] rfl (by (try simp only [List.map_toArray, List.map_cons, List.map_nil]); first | done | rfl | (simp only [List.length_drop, List.length_take]; rfl)) ?_; (with_reducible refine (truffleref06_digit.calls a0 false _ A2.out).mono ?_); rintro e w' ⟨rfl, ⟨nd, rfl⟩⟩; refine ⟨_, rfl, ?_⟩))
        go_ret
        exact ⟨by first | rfl | (simp; done) | (simp [*]; done), by repeat (first | exact Drawn0.refl _ | apply Drawn0.step)⟩
      · rw [if_neg c5] at H
        have c5b0 : decide (a0 ≤ 102) = false := decide_eq_false c5
        clear c5
        obtain rfl := Option.some.inj H
        go_enter Tryd.func79, Tryd.ntmps79
        go_wp2_with (first | ((with_reducible refine gate_callee (f := 64) rfl ?_); refine goesL_ (some 4) rfl rfl Tryd.func64 (by kernel_rfl) rfl #[.int .u8 a0] rfl (by (try simp only [List.map_toArray, List.map_cons, List.map_nil]); first | done | rfl | (simp only [List.length_drop, List.length_take]; rfl)) ?_; (with_reducible refine (truffleref06_digit.calls a0 false _ A2.out).mono ?_); rintro e w' ⟨rfl, ⟨nd, rfl⟩⟩; refine ⟨_, rfl, ?_⟩))
        go_ret
        exact ⟨by first | rfl | (simp; done) | (simp [*]; done), by repeat (first | exact Drawn0.refl _ | apply Drawn0.step)⟩
    · rw [if_neg c4] at H
      have c4b0 : decide (97 ≤ a0) = false := decide_eq_false c4
      clear c4
      obtain rfl := Option.some.inj H
      go_enter Tryd.func79, Tryd.ntmps79
      go_wp2_with (first | ((with_reducible refine gate_callee (f := 64) rfl ?_); refine goesL_ (some 4) rfl rfl Tryd.func64 (by kernel_rfl) rfl #[.int .u8 a0] rfl (by (try simp only [List.map_toArray, List.map_cons, List.map_nil]); first | done | rfl | (simp only [List.length_drop, List.length_take]; rfl)) ?_; (with_reducible refine (truffleref06_digit.calls a0 false _ A2.out).mono ?_); rintro e w' ⟨rfl, ⟨nd, rfl⟩⟩; refine ⟨_, rfl, ?_⟩))
      go_ret
      exact ⟨by first | rfl | (simp; done) | (simp [*]; done), by repeat (first | exact Drawn0.refl _ | apply Drawn0.step)⟩
end Go.Proofs.YtngcojabofkbjaaDoor.P
