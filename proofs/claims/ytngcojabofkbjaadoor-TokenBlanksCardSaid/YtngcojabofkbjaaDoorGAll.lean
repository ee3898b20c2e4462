/- token.All: a text's tokens, as the printed parts of the reader tell them, round by round. -/
import Derived.Maps.Own
import Derived.ChangeMaps4
import Derived.Test.YtngcojabofkbjaaDoorPx0
import Derived.Test.YtngcojabofkbjaaDoorPx2
import Derived.Test.YtngcojabofkbjaaDoorPx3
import Derived.Test.YtngcojabofkbjaaDoorPx4
import Derived.Test.YtngcojabofkbjaaDoorPx6
import Derived.Test.YtngcojabofkbjaaDoorGGInv
import Derived.Test.YtngcojabofkbjaaDoorGNum
import Derived.Test.YtngcojabofkbjaaDoorGOne
import Derived.Test.YtngcojabofkbjaaDoorGWhile
namespace Go.Proofs.YtngcojabofkbjaaDoor.P
open Go.RowKit Go.Proofs.YtngcojabofkbjaaDoorW.PrintWords Go.Proofs.YtngcojabofkbjaaDoorW.PrintLast Go.Proofs.YtngcojabofkbjaaDoorW.PrintMore
attribute [local go_sem] max2_int min2_int max_two min_two max_three min_three max_four min_four   -- for this text's walks alone
set_option linter.unusedVariables false
set_option linter.unusedSimpArgs false

abbrev TokR := Int × ByteArray × Int × Int × Bool × ByteArray × Int
def tokOne (k : Nat) (q : Int) (x : ByteArray) (at0 : Int) : Option TokR :=
  if q = 0 then token_reader_name.f x at0 else if q = 1 then token_reader_num.f x at0 else if q = 2 then token_reader_str.f k x at0 else token_reader_one.f x at0
def tokLoop : Nat → ByteArray → ByteArray → List S29 → Int → Option (List S29 × Int × Int)
  | 0, _, _, _, _ => none
  | k + 1, s, x, acc, at0 => if at0 < (s.size : Int) then (if 0 ≤ at0 then (if ofK (bt s at0) = 4 then some ([], at0, 4)
      else (tokOne k (ofK (bt s at0)) x at0).bind fun r => if r.2.2.2.2.1 = false then some ([], at0, 4)
        else if acc.length = 1000 then some ([], at0, 2)
        else (token_reader_skip.f k r.2.2.2.2.2.1 r.2.2.2.2.2.2).bind fun z => tokLoop k s z.1 (acc ++ [⟨r.1, r.2.1, r.2.2.1, at0⟩]) z.2) else none)
    else some (acc, s.size, 0)
def tokAll (k : Nat) (s : ByteArray) : Option (List S29 × Int × Int) :=
  if (s.size : Int) > 5000 then some ([], 0, 2) else (token_reader_skip.f k s 0).bind fun z => tokLoop k s z.1 [] z.2
theorem chkInt (b : Bool) (q : Int) (w : World) : (Instr.checkKey b 10000 3 (.int .i64 q)).run Tryd.prog w = .ok () w := by
  have h3 := run_underlying (w := w) Tryd.underlying3
  show (Instr.checkKey b (9999 + 1) 3 (.int .i64 q)).run Tryd.prog w = .ok () w
  unfold Instr.checkKey
  simp [h3]
def beginM : Obj := .map #[⟨.int .i64 0, .func (.func 33) #[] #[], 0⟩, ⟨.int .i64 1, .func (.func 34) #[] #[], 1⟩, ⟨.int .i64 2, .func (.func 35) #[] #[], 2⟩, ⟨.int .i64 3, .func (.func 36) #[] #[], 3⟩] 4
def beginF (q : Int) : Nat := if q = 0 then 33 else if q = 1 then 34 else if q = 2 then 35 else 36
theorem lookup_yes (w : World) (r : Nat) (q : Int) (h0 : 0 ≤ q) (h3 : q ≤ 3) (hb : w.heap[r]? = some beginM) :
    Sem.run Tryd.prog (Instr.lookup 53 (.map (some r)) (.int .i64 q) true) w = .ok (.tuple #[.func (.func (beginF q)) #[] #[], .bool true]) w := by
  have h53 := run_underlying (w := w) Tryd.underlying53
  have hi := run_underlying (w := w) Tryd.underlying3
  unfold beginM at hb
  obtain rfl | rfl | rfl | rfl : q = 0 ∨ q = 1 ∨ q = 2 ∨ q = 3 := by omega
  all_goals simp [Instr.lookup, chkInt, Instr.findKey, Instr.findNow, Instr.sameNow, h53, hi, MapKept.run_getObj_map hb, Result.andThen, beginF]
theorem lookup_no (w : World) (r : Nat) (hb : w.heap[r]? = some beginM) :
    Sem.run Tryd.prog (Instr.lookup 53 (.map (some r)) (.int .i64 4) true) w = .ok (.tuple #[.nilFunc, .bool false]) w := by
  have h53 := run_underlying (w := w) Tryd.underlying53
  have hi := run_underlying (w := w) Tryd.underlying3
  have hz : (zeroValue 50).run Tryd.prog w = .ok .nilFunc w := by kernel_rfl
  unfold beginM at hb
  simp [Instr.lookup, chkInt, Instr.findKey, Instr.findNow, Instr.sameNow, h53, hi, MapKept.run_getObj_map hb, Result.andThen, hz]
theorem set_push {α : Type} (a : Array α) (x y : α) : (a.push x).setIfInBounds a.size y = a.push y := by
  apply Array.ext
  · simp
  · intro i h1 h2
    rw [Array.getElem_setIfInBounds]
    · split
      · subst_vars; simp
      · rename_i hne
        have hlt : i < a.size := by simp at h2; omega
        rw [Array.getElem_push_lt hlt, Array.getElem_push_lt hlt]
    · simp at h2 ⊢; omega
theorem heap_set_new (w : World) (o o' : Obj) : ChangeMaps.setBlock (w.alloc o) w.heap.size o' = w.alloc o' := by
  unfold ChangeMaps.setBlock
  have e : (w.alloc o).heap.setIfInBounds w.heap.size o' = (w.alloc o').heap := set_push w.heap o o'
  rw [e]
  rfl
theorem set_0 (w : World) (v : Value) : Sem.run Tryd.prog (Instr.mapUpdate 53 (.map (some w.heap.size)) (.int .i64 0) v) (w.alloc (.map #[] 0)) = .ok () (w.alloc (.map #[⟨.int .i64 0, v, 0⟩] 1)) := by
  have hb : (w.alloc (.map #[] 0)).heap[w.heap.size]? = some (.map #[] 0) := heap_alloc_new w _
  have h53 := run_underlying (w := w.alloc (.map #[] 0)) Tryd.underlying53
  have hi := run_underlying (w := w.alloc (.map #[] 0)) Tryd.underlying3
  simp [Instr.mapUpdate, chkInt, Instr.findKey, Instr.findNow, Instr.sameNow, h53, hi, MapKept.run_getObj_map hb, MapKept.run_setObj_map _ hb, Result.andThen]
  exact heap_set_new w (.map #[] 0) _
theorem set_1 (w : World) (v0 v : Value) : Sem.run Tryd.prog (Instr.mapUpdate 53 (.map (some w.heap.size)) (.int .i64 1) v) (w.alloc (.map #[⟨.int .i64 0, v0, 0⟩] 1)) = .ok () (w.alloc (.map #[⟨.int .i64 0, v0, 0⟩, ⟨.int .i64 1, v, 1⟩] 2)) := by
  have hb : (w.alloc (.map #[⟨.int .i64 0, v0, 0⟩] 1)).heap[w.heap.size]? = some (.map #[⟨.int .i64 0, v0, 0⟩] 1) := heap_alloc_new w _
  have h53 := run_underlying (w := w.alloc (.map #[⟨.int .i64 0, v0, 0⟩] 1)) Tryd.underlying53
  have hi := run_underlying (w := w.alloc (.map #[⟨.int .i64 0, v0, 0⟩] 1)) Tryd.underlying3
  simp [Instr.mapUpdate, chkInt, Instr.findKey, Instr.findNow, Instr.sameNow, h53, hi, MapKept.run_getObj_map hb, MapKept.run_setObj_map _ hb, Result.andThen]
  exact heap_set_new w (.map #[⟨.int .i64 0, v0, 0⟩] 1) _
theorem set_2 (w : World) (v0 v1 v : Value) : Sem.run Tryd.prog (Instr.mapUpdate 53 (.map (some w.heap.size)) (.int .i64 2) v) (w.alloc (.map #[⟨.int .i64 0, v0, 0⟩, ⟨.int .i64 1, v1, 1⟩] 2)) = .ok () (w.alloc (.map #[⟨.int .i64 0, v0, 0⟩, ⟨.int .i64 1, v1, 1⟩, ⟨.int .i64 2, v, 2⟩] 3)) := by
  have hb : (w.alloc (.map #[⟨.int .i64 0, v0, 0⟩, ⟨.int .i64 1, v1, 1⟩] 2)).heap[w.heap.size]? = some (.map #[⟨.int .i64 0, v0, 0⟩, ⟨.int .i64 1, v1, 1⟩] 2) := heap_alloc_new w _
  have h53 := run_underlying (w := w.alloc (.map #[⟨.int .i64 0, v0, 0⟩, ⟨.int .i64 1, v1, 1⟩] 2)) Tryd.underlying53
  have hi := run_underlying (w := w.alloc (.map #[⟨.int .i64 0, v0, 0⟩, ⟨.int .i64 1, v1, 1⟩] 2)) Tryd.underlying3
  simp [Instr.mapUpdate, chkInt, Instr.findKey, Instr.findNow, Instr.sameNow, h53, hi, MapKept.run_getObj_map hb, MapKept.run_setObj_map _ hb, Result.andThen]
  exact heap_set_new w (.map #[⟨.int .i64 0, v0, 0⟩, ⟨.int .i64 1, v1, 1⟩] 2) _
theorem set_3 (w : World) (v0 v1 v2 v : Value) : Sem.run Tryd.prog (Instr.mapUpdate 53 (.map (some w.heap.size)) (.int .i64 3) v) (w.alloc (.map #[⟨.int .i64 0, v0, 0⟩, ⟨.int .i64 1, v1, 1⟩, ⟨.int .i64 2, v2, 2⟩] 3)) = .ok () (w.alloc (.map #[⟨.int .i64 0, v0, 0⟩, ⟨.int .i64 1, v1, 1⟩, ⟨.int .i64 2, v2, 2⟩, ⟨.int .i64 3, v, 3⟩] 4)) := by
  have hb : (w.alloc (.map #[⟨.int .i64 0, v0, 0⟩, ⟨.int .i64 1, v1, 1⟩, ⟨.int .i64 2, v2, 2⟩] 3)).heap[w.heap.size]? = some (.map #[⟨.int .i64 0, v0, 0⟩, ⟨.int .i64 1, v1, 1⟩, ⟨.int .i64 2, v2, 2⟩] 3) := heap_alloc_new w _
  have h53 := run_underlying (w := w.alloc (.map #[⟨.int .i64 0, v0, 0⟩, ⟨.int .i64 1, v1, 1⟩, ⟨.int .i64 2, v2, 2⟩] 3)) Tryd.underlying53
  have hi := run_underlying (w := w.alloc (.map #[⟨.int .i64 0, v0, 0⟩, ⟨.int .i64 1, v1, 1⟩, ⟨.int .i64 2, v2, 2⟩] 3)) Tryd.underlying3
  simp [Instr.mapUpdate, chkInt, Instr.findKey, Instr.findNow, Instr.sameNow, h53, hi, MapKept.run_getObj_map hb, MapKept.run_setObj_map _ hb, Result.andThen]
  exact heap_set_new w (.map #[⟨.int .i64 0, v0, 0⟩, ⟨.int .i64 1, v1, 1⟩, ⟨.int .i64 2, v2, 2⟩] 3) _
theorem own_ne_map {W : World} {base n size : Nat} {e : TypeId} {v : Value} {xs : List Value} (h : W.ownsRow base e size v n xs) {m c : Nat} {es : Array MapEntry} (hm : W.heap[m]? = some (.map es c)) : some m ≠ v.ownBlock := by
  rcases h.2 with ⟨hv, _⟩ | ⟨g, cap, cur, hv, _, hc, _⟩
  · subst hv; simp [Value.ownBlock]
  · subst hv
    intro e
    simp only [Value.ownBlock, Option.some.injEq] at e
    subst e
    rw [hc] at hm
    cases hm
theorem R_ne_map {α : Type} {d : Kd α} {e : TypeId} {W : World} {base : Nat} {ok : Nat → Prop} {v : Value} {xs : List α} (h : d.R e W base ok v xs) {m c : Nat} {es : Array MapEntry} (hm : W.heap[m]? = some (.map es c)) : some m ≠ v.ownBlock := by
  obtain ⟨h0, inner, hown, hr⟩ := h
  exact own_ne_map hown hm
theorem begin_ne {α : Type} {d : Kd α} {e : TypeId} {W : World} {base : Nat} {ok : Nat → Prop} {v : Value} {xs : List α} (h : d.R e W base ok v xs) {m : Nat} (hm : W.heap[m]? = some beginM) : some m ≠ v.ownBlock := R_ne_map h hm
theorem begin_far {w : World} {m : Nat} {p : Addr} (h : w.heap[m]? = some beginM) (hne : m ≠ p.block) (u : Value) : (w.setCell p u).heap[m]? = some beginM := (Below.heap_setCell w p u m hne).trans h
theorem tokOne_calls (k : Nat) (q : Int) (h0 : 0 ≤ q) (h3 : q ≤ 3) (g : Nat) (x : ByteArray) (at0 : Int) (a b c : Int) (t : ByteArray) (ok : Bool) (x' : ByteArray) (at' : Int) (w0 W : World) (hI : IsS55 w0 W g x at0) (hB : Below w0.heap.size w0 W) (hG : GInv w0) (h : tokOne k q x at0 = some (a, t, b, c, ok, x', at')) :
    Calls Tryd.prog (beginF q) #[.pointer (some ⟨g, 0, none⟩)] W fun e w' => e = .returned (.tuple #[.agg #[.int .i64 a, .string t, .int .i64 b, .int .i64 c], .bool ok]) ∧ IsS55 w0 w' g x' at' ∧ Below w0.heap.size w0 w' ∧ KeepBut W w' g none := by
  obtain rfl | rfl | rfl | rfl : q = 0 ∨ q = 1 ∨ q = 2 ∨ q = 3 := by omega
  · exact token_reader_name.calls g x at0 a t b c ok x' at' w0 W hI hB h
  · exact token_reader_num.calls g x at0 a t b c ok x' at' w0 W hI hB hG h
  · exact token_reader_str.calls k g x at0 a t b c ok x' at' w0 W hI hB h
  · exact token_reader_one.calls g x at0 a t b c ok x' at' w0 W hI hB h
theorem begin_enter (q : Int) (h0 : 0 ≤ q) (h3 : q ≤ 3) (args : Array Value) (w : World) : (callFunc (beginF q) args).run Tryd.prog w = .ok (.enter (beginF q) args) w := by
  obtain rfl | rfl | rfl | rfl : q = 0 ∨ q = 1 ∨ q = 2 ∨ q = 3 := by omega
  · exact run_enter Tryd.func33 (by kernel_rfl) (by kernel_rfl) _ _
  · exact run_enter Tryd.func34 (by kernel_rfl) (by kernel_rfl) _ _
  · exact run_enter Tryd.func35 (by kernel_rfl) (by kernel_rfl) _ _
  · exact run_enter Tryd.func36 (by kernel_rfl) (by kernel_rfl) _ _
theorem ofK_range (c : Int) : 0 ≤ ofK c ∧ ofK c ≤ 4 := by
  unfold ofK
  repeat' split
  all_goals omega
set_option maxHeartbeats 1600000 in
set_option maxRecDepth 100000 in
theorem tokAll_walk (k : Nat) (a0 : ByteArray) (r1 : List S29) (r2 r3 : Int) (w : World) (hG : GInv w) (h : tokAll k a0 = some (r1, r2, r3)) :
    Calls Tryd.prog 16 #[.string a0] w fun e w' => ∃ v0_ : Value, e = .returned (.tuple #[v0_, .int .i64 r2, .int .i64 r3]) ∧ Kd.R k29 29 w' w.heap.size (fun _ => True) v0_ r1 ∧ Below w.heap.size w w' := by
  unfold tokAll at h
  split at h
  · rename_i hbig
    simp only [Option.some.injEq, Prod.mk.injEq] at h
    obtain ⟨rfl, rfl, rfl⟩ := h
    have b1 : decide (5000 < (a0.size : Int)) = true := decide_eq_true hbig
    have b2 : decide (5000 < a0.size) = true := decide_eq_true (by omega)
    clear hbig
    go_enter Tryd.func16, Tryd.ntmps16
    go_wp2
    go_ret3
    exact ⟨_, rfl, Kd.R_nil _ _ _ _ _, Below.refl _ _⟩
  · rename_i hbig
    have b1 : decide (5000 < (a0.size : Int)) = false := decide_eq_false hbig
    have b2 : decide (5000 < a0.size) = false := decide_eq_false (by omega)
    clear hbig
    obtain ⟨⟨x, at0⟩, A0, h⟩ := Option.bind_eq_some_iff.mp h
    have AS := Aside0.mk A0
    have AL := Aside0.mk h
    clear A0 h
    go_enter Tryd.func16, Tryd.ntmps16
    have mk := fun W => @run_makeMap Tryd.prog W
    have s0 := set_0 w
    have s1 := set_1 w
    have s2 := set_2 w
    have s3 := set_3 w
    have HM := Aside0.mk (heap_alloc_new w beginM)
    have HB := Aside0.mk (below_alloc (Below.refl w.heap.size w) beginM)
    have hsz : (w.alloc beginM).heap.size = w.heap.size + 1 := by simp
    have HI := Aside0.mk (IsS55.new w (w.alloc beginM) a0 0 HB.out)
    have HM2 := Aside0.mk (((below_alloc (Below.refl (w.alloc beginM).heap.size (w.alloc beginM)) (.cells #[.string a0, .int .i64 0] 55)).block w.heap.size (by rw [hsz]; omega)).trans HM.out)
    have HB2 := Aside0.mk (below_alloc HB.out (.cells #[.string a0, .int .i64 0] 55))
    rw [hsz] at HI
    clear HM HB hsz
    have hgm : w.heap.size + 1 ≠ w.heap.size := by omega
    go_wp2_with (go_at_call 37; refine (token_reader_skip.calls k (w.heap.size + 1) a0 0 x at0 w _ HI.out HB2.out AS.out).mono ?_; rintro e w1 ⟨rfl, hi, hb, hk⟩; have n0_ := Aside0.mk (KeepBut.blk hk HM2.out (Ne.symm hgm) (by simp)); clear HM2 HB2 HI AS hk; have HM := n0_; have HB := Aside0.mk hb; have HI := Aside0.mk hi; clear n0_ hb hi)
    clear mk s0 s1 s2 s3
    generalize w.heap.size + 1 = g at *
    go_loopg [7] k (fun kq v7 W => ∃ (x : ByteArray) (acc : List S29) (p : Int), Aside0 (tokLoop kq a0 x acc p = some (r1, r2, r3)) ∧ Aside0 (Kd.R k29 29 W w.heap.size (fun _ => True) v7 acc) ∧ Aside0 (IsS55 w W g x p) ∧ Aside0 (W.heap[w.heap.size]? = some beginM) ∧ Aside0 (Below w.heap.size w W) ∧ Aside0 (acc.length ≤ 1000))
    case atStart => exact ⟨x, [], at0, AL, ⟨Kd.R_nil _ _ _ _ _⟩, HI, HM, HB, ⟨by simp⟩⟩
    case round =>
      clear AL HI HM HB
      obtain ⟨x, acc, p, HA, HO, HI, HM, HB, HL⟩ := hrel
      cases gk with
      | zero => exact absurd HA.out (by simp [tokLoop])
      | succ k1 =>
        have H := HA.out
        clear HA
        simp only [tokLoop] at H
        have c0 := cellS55_0 HI.out.1
        have c1 := cellS55_1 HI.out.1
        by_cases hlt : p < (a0.size : Int)
        · rw [if_pos hlt] at H
          by_cases hp0 : 0 ≤ p
          · rw [if_pos hp0] at H
            obtain ⟨n, rfl⟩ := Int.eq_ofNat_of_zero_le hp0
            have hn : n < a0.size := by omega
            have d1 : decide ((n : Int) < (a0.size : Int)) = true := decide_eq_true hlt
            have d2 : decide (n < a0.size) = true := decide_eq_true hn
            have hbt : bt a0 n = (a0[n].toNat : Int) := by simp [bt, hn]
            rw [hbt] at H
            have hq := ofK_range (a0[n].toNat : Int)
            have HQ := Aside0.mk (fun W => token_of.calls 5 (a0[n].toNat : Int) _ W (token_of_eq 5 (by omega) _))
            generalize ofK (a0[n].toNat : Int) = q at *
            clear hbt hlt hp0
            by_cases hq4 : q = 4
            · subst hq4
              rw [if_pos rfl] at H
              simp only [Option.some.injEq, Prod.mk.injEq] at H
              obtain ⟨rfl, rfl, rfl⟩ := H
              have hlk : ∀ m, Sem.run Tryd.prog (Instr.lookup 53 (.map (some w.heap.size)) (.int .i64 4) true) (wr.drewN m) = .ok (.tuple #[.nilFunc, .bool false]) (wr.drewN m) := fun m => lookup_no _ _ HM.out
              clear hq
              go_wp2_with (go_at_call 38; refine (HQ.out _).mono ?_; rintro e w2 ⟨rfl, ⟨nd, rfl⟩⟩)
              go_ret3
              exact ⟨_, rfl, Kd.R_nil _ _ _ _ _, (by repeat (first | (with_reducible first | exact HB.out | apply below_alloc | apply pw_below_drewN | apply below_drew1) | exact HB.out))⟩
            · rw [if_neg hq4] at H
              have hlk : ∀ m, Sem.run Tryd.prog (Instr.lookup 53 (.map (some w.heap.size)) (.int .i64 q) true) (wr.drewN m) = .ok (.tuple #[.func (.func (beginF q)) #[] #[], .bool true]) (wr.drewN m) := fun m => lookup_yes _ _ q hq.1 (by omega) HM.out
              have hcf := fun args W => begin_enter q hq.1 (by omega) args W
              obtain ⟨⟨ka, ta, na, ca, ok, x', p'⟩, A1, H⟩ := Option.bind_eq_some_iff.mp H
              have HC := Aside0.mk (fun W hI hB => tokOne_calls k1 q hq.1 (by omega) g x n ka na ca ta ok x' p' w W hI hB hG A1)
              generalize beginF q = F at *
              clear hq hq4 A1
              have HH := Aside0.mk H
              clear H
              go_wp2_with (go_at_call 38; refine (HQ.out _).mono ?_; rintro e w2 ⟨rfl, ⟨nd, rfl⟩⟩)
              have HI1 := Aside0.mk (show IsS55 w (wr.drewN nd) g x n from HI.out)
              have HM1 := Aside0.mk (show (wr.drewN nd).heap[w.heap.size]? = some beginM from HM.out)
              have HB1 := Aside0.mk (show Below w.heap.size w (wr.drewN nd) from (by repeat (first | (with_reducible first | exact HB.out | apply below_alloc | apply pw_below_drewN | apply below_drew1) | exact HB.out)))
              have HO1 := Aside0.mk (show Kd.R k29 29 (wr.drewN nd) w.heap.size (fun _ => True) u7 acc from by (with_reducible repeat (first | apply Kd.R_alloc | apply Kd.R_drewN | apply Kd.R_drew)); exact HO.out)
              clear HI HM HB HO c0 c1 hlk hcf HQ
              refine (HC.out _ HI1.out HB1.out).mono ?_
              rintro e w3 ⟨rfl, hi, hb, hk⟩
              have HO := Aside0.mk (Kd.R_mono (Kd.R_keep (IsS55.apart HI1.out HO1.out (by decide)) hk (fun _ h => h.2)) (fun _ _ => trivial) : Kd.R k29 29 w3 w.heap.size (fun _ => True) u7 acc)
              have HM := Aside0.mk (KeepBut.blk hk HM1.out (Ne.symm hgm) (by simp))
              have HB := Aside0.mk hb
              have HI := Aside0.mk hi
              clear HI1 HM1 HB1 HO1 HC hi hb hk
              cases ok with
              | false =>
                have H := HH.out
                rw [if_pos rfl] at H
                simp only [Option.some.injEq, Prod.mk.injEq] at H
                obtain ⟨rfl, rfl, rfl⟩ := H
                go_wp2_with ((with_reducible refine gate_dst (N := 11) rfl ?_); refine box_event ?hg (N := 11) ?hd (cs := #[.int .i64 0, .string (⟨#[]⟩ : ByteArray), .int .i64 0, .int .i64 0]) (t := 29) ?hr ?_; (case hd => rfl); (case hg => rfl); (case hr => first | (go_simp; done) | (go_simp; rfl)); intro gb hg w4 hbox hb; have n0_ := Aside0.mk (IsS55.below HI.out hb); have n1_ := Aside0.mk (Kd.R_below (Kd.R_elderB HO.out gb (Nat.le_of_eq hg.symm)) hb); have n2_ := Aside0.mk (below_step HB.out hb); have n3_ := Aside0.mk hbox; have n4_ := Aside0.mk ((by rw [hg]; exact below_size HB.out) : w.heap.size ≤ gb); have n5_ := Aside0.mk ((hb.block _ (blk_lt HM.out)).trans HM.out); have n6_ := Aside0.mk ((by rw [hg]; exact Nat.ne_of_lt (IsS55.lt HI.out)) : g ≠ gb); have n7_ := Aside0.mk ((by rw [hg]; exact Nat.ne_of_lt (blk_lt HM.out)) : w.heap.size ≠ gb); clear HI HO HB HM; have HI := n0_; have HO := n1_; have HB := n2_; have BK := n3_; have GW := n4_; have HM := n5_; have NB := n6_; have NM := n7_; clear n0_ n1_ n2_ n3_ n4_ n5_ n6_ n7_; clear hb hbox hg; have z0 : _ = some (Value.int .i64 0) := (blk_cell BK.out 0).trans rfl; have z1 : _ = some (Value.string (⟨#[]⟩ : ByteArray)) := (blk_cell BK.out 1).trans rfl; have z2 : _ = some (Value.int .i64 0) := (blk_cell BK.out 2).trans rfl; have z3 : _ = some (Value.int .i64 0) := (blk_cell BK.out 3).trans rfl; have y0 := blk_frozen BK.out 0; have y1 := blk_frozen BK.out 1; have y2 := blk_frozen BK.out 2; have y3 := blk_frozen BK.out 3; obtain ⟨Ao, co, eo⟩ := Kd.R_slice HO.out; subst eo)
                go_ret3
                exact ⟨_, rfl, Kd.R_nil _ _ _ _ _, (by repeat (first | (with_reducible first | exact HB.out | apply below_alloc | apply pw_below_drewN | apply below_drew1 | refine below_set ?_ GW.out) | exact HB.out))⟩
              | true =>
                have H := HH.out
                rw [if_neg (by simp)] at H
                clear HH
                by_cases hl : acc.length = 1000
                · rw [if_pos hl] at H
                  simp only [Option.some.injEq, Prod.mk.injEq] at H
                  obtain ⟨rfl, rfl, rfl⟩ := H
                  have e1 : ((acc.length : Int) == 1000) = true := by simp [hl]
                  clear hl
                  go_wp2_with ((with_reducible refine gate_dst (N := 11) rfl ?_); refine box_event ?hg (N := 11) ?hd (cs := #[.int .i64 0, .string (⟨#[]⟩ : ByteArray), .int .i64 0, .int .i64 0]) (t := 29) ?hr ?_; (case hd => rfl); (case hg => rfl); (case hr => first | (go_simp; done) | (go_simp; rfl)); intro gb hg w4 hbox hb; have n0_ := Aside0.mk (IsS55.below HI.out hb); have n1_ := Aside0.mk (Kd.R_below (Kd.R_elderB HO.out gb (Nat.le_of_eq hg.symm)) hb); have n2_ := Aside0.mk (below_step HB.out hb); have n3_ := Aside0.mk hbox; have n4_ := Aside0.mk ((by rw [hg]; exact below_size HB.out) : w.heap.size ≤ gb); have n5_ := Aside0.mk ((hb.block _ (blk_lt HM.out)).trans HM.out); have n6_ := Aside0.mk ((by rw [hg]; exact Nat.ne_of_lt (IsS55.lt HI.out)) : g ≠ gb); have n7_ := Aside0.mk ((by rw [hg]; exact Nat.ne_of_lt (blk_lt HM.out)) : w.heap.size ≠ gb); clear HI HO HB HM; have HI := n0_; have HO := n1_; have HB := n2_; have BK := n3_; have GW := n4_; have HM := n5_; have NB := n6_; have NM := n7_; clear n0_ n1_ n2_ n3_ n4_ n5_ n6_ n7_; clear hb hbox hg; have z0 : _ = some (Value.int .i64 0) := (blk_cell BK.out 0).trans rfl; have z1 : _ = some (Value.string (⟨#[]⟩ : ByteArray)) := (blk_cell BK.out 1).trans rfl; have z2 : _ = some (Value.int .i64 0) := (blk_cell BK.out 2).trans rfl; have z3 : _ = some (Value.int .i64 0) := (blk_cell BK.out 3).trans rfl; have y0 := blk_frozen BK.out 0; have y1 := blk_frozen BK.out 1; have y2 := blk_frozen BK.out 2; have y3 := blk_frozen BK.out 3; obtain ⟨Ao, co, eo⟩ := Kd.R_slice HO.out; subst eo)
                  go_ret3
                  exact ⟨_, rfl, Kd.R_nil _ _ _ _ _, (by repeat (first | (with_reducible first | exact HB.out | apply below_alloc | apply pw_below_drewN | apply below_drew1 | refine below_set ?_ GW.out) | exact HB.out))⟩
                · rw [if_neg hl] at H
                  obtain ⟨⟨x2, p2⟩, A2, H⟩ := Option.bind_eq_some_iff.mp H
                  have e1 : ((acc.length : Int) == 1000) = false := by rw [beq_eq_false_iff_ne]; omega
                  have HL2 := Aside0.mk (show acc.length < 1000 by have := HL.out; omega)
                  have AS := Aside0.mk A2
                  have AL := Aside0.mk H
                  clear hl A2 H HL
                  go_upto_region 16 with ((with_reducible refine gate_dst (N := 11) rfl ?_); refine box_event ?hg (N := 11) ?hd (cs := #[.int .i64 0, .string (⟨#[]⟩ : ByteArray), .int .i64 0, .int .i64 0]) (t := 29) ?hr ?_; (case hd => rfl); (case hg => rfl); (case hr => first | (go_simp; done) | (go_simp; rfl)); intro gb hg w4 hbox hb; have n0_ := Aside0.mk (IsS55.below HI.out hb); have n1_ := Aside0.mk (Kd.R_below (Kd.R_elderB HO.out gb (Nat.le_of_eq hg.symm)) hb); have n2_ := Aside0.mk (below_step HB.out hb); have n3_ := Aside0.mk hbox; have n4_ := Aside0.mk ((by rw [hg]; exact below_size HB.out) : w.heap.size ≤ gb); have n5_ := Aside0.mk ((hb.block _ (blk_lt HM.out)).trans HM.out); have n6_ := Aside0.mk ((by rw [hg]; exact Nat.ne_of_lt (IsS55.lt HI.out)) : g ≠ gb); have n7_ := Aside0.mk ((by rw [hg]; exact Nat.ne_of_lt (blk_lt HM.out)) : w.heap.size ≠ gb); clear HI HO HB HM; have HI := n0_; have HO := n1_; have HB := n2_; have BK := n3_; have GW := n4_; have HM := n5_; have NB := n6_; have NM := n7_; clear n0_ n1_ n2_ n3_ n4_ n5_ n6_ n7_; clear hb hbox hg; have z0 : _ = some (Value.int .i64 0) := (blk_cell BK.out 0).trans rfl; have z1 : _ = some (Value.string (⟨#[]⟩ : ByteArray)) := (blk_cell BK.out 1).trans rfl; have z2 : _ = some (Value.int .i64 0) := (blk_cell BK.out 2).trans rfl; have z3 : _ = some (Value.int .i64 0) := (blk_cell BK.out 3).trans rfl; have y0 := blk_frozen BK.out 0; have y1 := blk_frozen BK.out 1; have y2 := blk_frozen BK.out 2; have y3 := blk_frozen BK.out 3; obtain ⟨Ao, co, eo⟩ := Kd.R_slice HO.out; subst eo)
                  go_upto_region 18 with (fail)
                  go_upto_region 19 with (fail)
                  have HI2 : IsS55 w (((((w4.setCell ⟨gb, 0, none⟩ (.int .i64 ka)).setCell ⟨gb, 1, none⟩ (.string ta)).setCell ⟨gb, 2, none⟩ (.int .i64 na)).setCell ⟨gb, 3, none⟩ (.int .i64 ca)).setCell ⟨gb, 3, none⟩ (.int .i64 (n : Int))) g x' p' := (by repeat (first | (with_reducible first | exact HI.out | apply IsS55.alloc | apply IsS55.drewN | apply IsS55.drew | apply IsS55.set_0 | apply IsS55.set_1 | refine IsS55.far ?_ NB.out _) | exact HI.out))
                  have HM2 : (((((w4.setCell ⟨gb, 0, none⟩ (.int .i64 ka)).setCell ⟨gb, 1, none⟩ (.string ta)).setCell ⟨gb, 2, none⟩ (.int .i64 na)).setCell ⟨gb, 3, none⟩ (.int .i64 ca)).setCell ⟨gb, 3, none⟩ (.int .i64 (n : Int))).heap[w.heap.size]? = some beginM := begin_far (begin_far (begin_far (begin_far (begin_far HM.out NM.out _) NM.out _) NM.out _) NM.out _) NM.out _
                  have HB2 : Below w.heap.size w (((((w4.setCell ⟨gb, 0, none⟩ (.int .i64 ka)).setCell ⟨gb, 1, none⟩ (.string ta)).setCell ⟨gb, 2, none⟩ (.int .i64 na)).setCell ⟨gb, 3, none⟩ (.int .i64 ca)).setCell ⟨gb, 3, none⟩ (.int .i64 (n : Int))) := (by repeat (first | (with_reducible first | exact HB.out | apply below_alloc | apply pw_below_drewN | apply below_drew1 | refine below_set ?_ GW.out) | exact HB.out))
                  have HO2 : Kd.R k29 29 (((((w4.setCell ⟨gb, 0, none⟩ (.int .i64 ka)).setCell ⟨gb, 1, none⟩ (.string ta)).setCell ⟨gb, 2, none⟩ (.int .i64 na)).setCell ⟨gb, 3, none⟩ (.int .i64 ca)).setCell ⟨gb, 3, none⟩ (.int .i64 (n : Int))) w.heap.size (fun k_ => k_ ≠ gb) (.slice Ao acc.length co) acc := Kd.R_mono (Kd.R_far (p := ⟨gb, 3, none⟩) (Kd.R_far (p := ⟨gb, 3, none⟩) (Kd.R_far (p := ⟨gb, 2, none⟩) (Kd.R_far (p := ⟨gb, 1, none⟩) (Kd.R_far (p := ⟨gb, 0, none⟩) HO.out (fun _ h => h.2) _) (fun _ h => h.2) _) (fun _ h => h.2) _) (fun _ h => h.2) _) (fun _ h => h.2) _) (fun _ h => h.2)
                  have BK2 : (((((w4.setCell ⟨gb, 0, none⟩ (.int .i64 ka)).setCell ⟨gb, 1, none⟩ (.string ta)).setCell ⟨gb, 2, none⟩ (.int .i64 na)).setCell ⟨gb, 3, none⟩ (.int .i64 ca)).setCell ⟨gb, 3, none⟩ (.int .i64 (n : Int))).heap[gb]? = some (.cells #[.int .i64 ka, .string ta, .int .i64 na, .int .i64 n] 29 (0, 0)) := by
                    refine blk_put (cs := #[.int .i64 ka, .string ta, .int .i64 na, .int .i64 ca]) ?_ 3 _ rfl
                    refine blk_put (cs := #[.int .i64 ka, .string ta, .int .i64 na, .int .i64 0]) ?_ 3 _ rfl
                    refine blk_put (cs := #[.int .i64 ka, .string ta, .int .i64 0, .int .i64 0]) ?_ 2 _ rfl
                    refine blk_put (cs := #[.int .i64 ka, .string (⟨#[]⟩ : ByteArray), .int .i64 0, .int .i64 0]) ?_ 1 _ rfl
                    refine blk_put (cs := #[.int .i64 0, .string (⟨#[]⟩ : ByteArray), .int .i64 0, .int .i64 0]) ?_ 0 _ rfl
                    exact BK.out
                  clear HI HM HB HO BK z0 z1 z2 z3 y0 y1 y2 y3
                  generalize (((((w4.setCell ⟨gb, 0, none⟩ (.int .i64 ka)).setCell ⟨gb, 1, none⟩ (.string ta)).setCell ⟨gb, 2, none⟩ (.int .i64 na)).setCell ⟨gb, 3, none⟩ (.int .i64 ca)).setCell ⟨gb, 3, none⟩ (.int .i64 (n : Int))) = WW at *
                  have HI := Aside0.mk HI2
                  have HM := Aside0.mk HM2
                  have HB := Aside0.mk HB2
                  have HO := Aside0.mk HO2
                  have BK := Aside0.mk BK2
                  clear HI2 HM2 HB2 HO2 BK2
                  have l0 : WW.cell? ⟨gb, 0, none⟩ = some (.int .i64 ka) := (blk_cell BK.out 0).trans rfl
                  have l1 : WW.cell? ⟨gb, 1, none⟩ = some (.string ta) := (blk_cell BK.out 1).trans rfl
                  have l2 : WW.cell? ⟨gb, 2, none⟩ = some (.int .i64 na) := (blk_cell BK.out 2).trans rfl
                  have l3 : WW.cell? ⟨gb, 3, none⟩ = some (.int .i64 n) := (blk_cell BK.out 3).trans rfl
                  go_wp2_with (first | ((with_reducible refine gate_builtin (b := .append) (xs := #[.tmp 65, .tmp 67]) rfl ?_); at_builtin; refine Kd.R_append k29 (w0 := w) w.heap.size rfl (.tmp 65) (.tmp 67) 23 29 (.agg #[(.int .i64 0), (.string ⟨#[]⟩), (.int .i64 0), (.int .i64 0)]) 40 rfl Tryd.underlying23 info29 rfl (by decide) (by omega) (.slice Ao acc.length co) acc (⟨ka, ta, na, n⟩ : S29) [.int .i64 ka, .string ta, .int .i64 na, .int .i64 n] (fun k_ => k_ ≠ gb) (fun _ => False) rfl (by first | (go_simp; done) | (go_simp; rfl)) ?aP (fun _ hk => hk.elim) ?aF ?aO ?aB ?aS ?aL ?_; (case aP => exact k29_mkM _ _ _ (⟨ka, ta, na, n⟩ : S29)); (case aB => exact (by repeat (first | (with_reducible first | exact HB.out | apply below_alloc | apply pw_below_drewN | apply below_drew1) | exact HB.out))); (case aF => exact fun k_ hk => by have := blk_lt BK.out; omega); (case aO => (with_reducible repeat (first | apply Kd.R_alloc | apply Kd.R_drewN | apply Kd.R_drew)); exact HO.out); (case aS => exact below_size (by repeat (first | (with_reducible first | exact HB.out | apply below_alloc | apply pw_below_drewN | apply below_drew1) | exact HB.out))); (case aL => have := HL2.out; omega); intro v1 w5 ho hb hg hat; have n0_ := Aside0.mk (IsS55.grown (by repeat (first | (with_reducible first | exact HI.out | apply IsS55.alloc | apply IsS55.drewN | apply IsS55.drew | apply IsS55.set_0 | apply IsS55.set_1) | exact HI.out)) hg (IsS55.own_ne HI.out HO.out (by decide))); have n1_ := Aside0.mk (blk_grown HM.out hg (begin_ne HO.out HM.out)); have n2_ := Aside0.mk hb; have n3_ := Aside0.mk (Kd.R_mono (ok' := fun _ => True) ho (fun _ _ => trivial)); clear HI HM HB HO BK l0 l1 l2 l3; have HI := n0_; have HM := n1_; have HB := n2_; have HO := n3_; clear n0_ n1_ n2_ n3_ ho hb hg hat) | (go_at_call 37; refine (token_reader_skip.calls k1 g x' p' x2 p2 w _ HI.out HB.out AS.out).mono ?_; rintro e w6 ⟨rfl, hi, hb, hk⟩; have n0_ := Aside0.mk (KeepBut.blk hk HM.out (Ne.symm hgm) (by simp)); have n1_ := Aside0.mk (Kd.R_mono (ok' := fun _ => True) (Kd.R_keep (IsS55.apart HI.out HO.out (by decide)) hk (fun _ h => h.2)) (fun _ _ => trivial)); clear HM HB HI HO AS hk; have HM := n0_; have HO := n1_; have HB := Aside0.mk hb; have HI := Aside0.mk hi; clear n0_ n1_ hb hi))
                  go_roundg k1
                  case measure => omega
                  case rel => exact ⟨x2, _, p2, AL, HO, HI, HM, HB, ⟨by have := HL2.out; simp; omega⟩⟩
          · rw [if_neg hp0] at H; cases H
        · rw [if_neg hlt] at H
          simp only [Option.some.injEq, Prod.mk.injEq] at H
          obtain ⟨rfl, rfl, rfl⟩ := H
          have d1 : decide (p < (a0.size : Int)) = false := decide_eq_false hlt
          clear hlt
          go_wp2
          go_ret3
          exact ⟨_, rfl, HO.out, HB.out⟩

end Go.Proofs.YtngcojabofkbjaaDoor.P
