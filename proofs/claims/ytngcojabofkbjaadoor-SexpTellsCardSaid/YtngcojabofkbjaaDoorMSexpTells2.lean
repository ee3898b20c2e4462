/- Part 2 of what the law SexpTells leans on: contracts of the functions that it reaches, and plain lemmas; printed walks and words (by the kit's print, through wip/mp.py) and the session's own texts, one behind the other, what is not used left out (wip/prune.py). -/
import Derived.Below
import Derived.Deep.Draws
import Derived.Deep.AppendLies
import Derived.Maps.AppendAt
import Derived.OwnWalk
import Derived.Laws.BytesArg
import Derived.Laws.MakeOwn
import Derived.Laws.OwnMore
import Derived.Deep.OwnRows
import Derived.Tactics
import Derived.Lib.ConvBytes
import Derived.Laws.Slices
import Derived.WalkKit
import Derived.KernelRfl
import Derived.RowKit3
import Derived.Deep.LoopGhost
import Derived.Deep.QuietTactic
import Derived.BigQuiet
import Derived.WideLaws
import Derived.Deep.DeepCutAuto
import Derived.Deep.CutBlock
import Derived.Deep.RegionHeld3
import Derived.Laws.Rows
import Derived.Lib.AppendStr
import Derived.ArgAppend
import Derived.Laws.IdiomCopy
import Derived.OrdersHeld
import Derived.Laws.BitsLemmas
import Derived.RowKit
import Derived.Test.YtngcojabofkbjaaDoorProg
import Derived.Test.YtngcojabofkbjaaDoorMSexpTells1
namespace Go.Proofs.YtngcojabofkbjaaDoor.P
open Go.RowKit Go.Proofs.YtngcojabofkbjaaDoorW.PrintWords Go.Proofs.YtngcojabofkbjaaDoorW.PrintLast Go.Proofs.YtngcojabofkbjaaDoorW.PrintMore
set_option linter.unusedVariables false
set_option linter.unusedSimpArgs false
theorem sq_box1 {W : World} {g : Nat} {c0 : Value} {t : TypeId} (h : W.heap[g]? = some (.cells #[c0] t (0, 0))) : W.cell? ⟨g, 0, none⟩ = some c0 ∧ W.frozen? ⟨g, 0, none⟩ = false :=
 ⟨(blk_cell h 0).trans rfl, blk_frozen h 0⟩
theorem sq_box2 {W : World} {g : Nat} {c0 c1 : Value} {t : TypeId} (h : W.heap[g]? = some (.cells #[c0, c1] t (0, 0))) : W.cell? ⟨g, 0, none⟩ = some c0 ∧ W.cell? ⟨g, 1, none⟩ = some c1 ∧ W.frozen? ⟨g, 0, none⟩ = false ∧ W.frozen? ⟨g, 1, none⟩ = false :=
 ⟨(blk_cell h 0).trans rfl, (blk_cell h 1).trans rfl, blk_frozen h 0, blk_frozen h 1⟩
theorem sq_box3 {W : World} {g : Nat} {c0 c1 c2 : Value} {t : TypeId} (h : W.heap[g]? = some (.cells #[c0, c1, c2] t (0, 0))) : W.cell? ⟨g, 0, none⟩ = some c0 ∧ W.cell? ⟨g, 1, none⟩ = some c1 ∧ W.cell? ⟨g, 2, none⟩ = some c2 ∧ W.frozen? ⟨g, 0, none⟩ = false ∧ W.frozen? ⟨g, 1, none⟩ = false ∧ W.frozen? ⟨g, 2, none⟩ = false :=
 ⟨(blk_cell h 0).trans rfl, (blk_cell h 1).trans rfl, (blk_cell h 2).trans rfl, blk_frozen h 0, blk_frozen h 1, blk_frozen h 2⟩
theorem sq_box4 {W : World} {g : Nat} {c0 c1 c2 c3 : Value} {t : TypeId} (h : W.heap[g]? = some (.cells #[c0, c1, c2, c3] t (0, 0))) : W.cell? ⟨g, 0, none⟩ = some c0 ∧ W.cell? ⟨g, 1, none⟩ = some c1 ∧ W.cell? ⟨g, 2, none⟩ = some c2 ∧ W.cell? ⟨g, 3, none⟩ = some c3 ∧ W.frozen? ⟨g, 0, none⟩ = false ∧ W.frozen? ⟨g, 1, none⟩ = false ∧ W.frozen? ⟨g, 2, none⟩ = false ∧ W.frozen? ⟨g, 3, none⟩ = false :=
 ⟨(blk_cell h 0).trans rfl, (blk_cell h 1).trans rfl, (blk_cell h 2).trans rfl, (blk_cell h 3).trans rfl, blk_frozen h 0, blk_frozen h 1, blk_frozen h 2, blk_frozen h 3⟩
theorem sq_box5 {W : World} {g : Nat} {c0 c1 c2 c3 c4 : Value} {t : TypeId} (h : W.heap[g]? = some (.cells #[c0, c1, c2, c3, c4] t (0, 0))) : W.cell? ⟨g, 0, none⟩ = some c0 ∧ W.cell? ⟨g, 1, none⟩ = some c1 ∧ W.cell? ⟨g, 2, none⟩ = some c2 ∧ W.cell? ⟨g, 3, none⟩ = some c3 ∧ W.cell? ⟨g, 4, none⟩ = some c4 ∧ W.frozen? ⟨g, 0, none⟩ = false ∧ W.frozen? ⟨g, 1, none⟩ = false ∧ W.frozen? ⟨g, 2, none⟩ = false ∧ W.frozen? ⟨g, 3, none⟩ = false ∧ W.frozen? ⟨g, 4, none⟩ = false :=
 ⟨(blk_cell h 0).trans rfl, (blk_cell h 1).trans rfl, (blk_cell h 2).trans rfl, (blk_cell h 3).trans rfl, (blk_cell h 4).trans rfl, blk_frozen h 0, blk_frozen h 1, blk_frozen h 2, blk_frozen h 3, blk_frozen h 4⟩
theorem sq_box6 {W : World} {g : Nat} {c0 c1 c2 c3 c4 c5 : Value} {t : TypeId} (h : W.heap[g]? = some (.cells #[c0, c1, c2, c3, c4, c5] t (0, 0))) : W.cell? ⟨g, 0, none⟩ = some c0 ∧ W.cell? ⟨g, 1, none⟩ = some c1 ∧ W.cell? ⟨g, 2, none⟩ = some c2 ∧ W.cell? ⟨g, 3, none⟩ = some c3 ∧ W.cell? ⟨g, 4, none⟩ = some c4 ∧ W.cell? ⟨g, 5, none⟩ = some c5 ∧ W.frozen? ⟨g, 0, none⟩ = false ∧ W.frozen? ⟨g, 1, none⟩ = false ∧ W.frozen? ⟨g, 2, none⟩ = false ∧ W.frozen? ⟨g, 3, none⟩ = false ∧ W.frozen? ⟨g, 4, none⟩ = false ∧ W.frozen? ⟨g, 5, none⟩ = false :=
 ⟨(blk_cell h 0).trans rfl, (blk_cell h 1).trans rfl, (blk_cell h 2).trans rfl, (blk_cell h 3).trans rfl, (blk_cell h 4).trans rfl, (blk_cell h 5).trans rfl, blk_frozen h 0, blk_frozen h 1, blk_frozen h 2, blk_frozen h 3, blk_frozen h 4, blk_frozen h 5⟩
theorem sq_box7 {W : World} {g : Nat} {c0 c1 c2 c3 c4 c5 c6 : Value} {t : TypeId} (h : W.heap[g]? = some (.cells #[c0, c1, c2, c3, c4, c5, c6] t (0, 0))) : W.cell? ⟨g, 0, none⟩ = some c0 ∧ W.cell? ⟨g, 1, none⟩ = some c1 ∧ W.cell? ⟨g, 2, none⟩ = some c2 ∧ W.cell? ⟨g, 3, none⟩ = some c3 ∧ W.cell? ⟨g, 4, none⟩ = some c4 ∧ W.cell? ⟨g, 5, none⟩ = some c5 ∧ W.cell? ⟨g, 6, none⟩ = some c6 ∧ W.frozen? ⟨g, 0, none⟩ = false ∧ W.frozen? ⟨g, 1, none⟩ = false ∧ W.frozen? ⟨g, 2, none⟩ = false ∧ W.frozen? ⟨g, 3, none⟩ = false ∧ W.frozen? ⟨g, 4, none⟩ = false ∧ W.frozen? ⟨g, 5, none⟩ = false ∧ W.frozen? ⟨g, 6, none⟩ = false :=
 ⟨(blk_cell h 0).trans rfl, (blk_cell h 1).trans rfl, (blk_cell h 2).trans rfl, (blk_cell h 3).trans rfl, (blk_cell h 4).trans rfl, (blk_cell h 5).trans rfl, (blk_cell h 6).trans rfl, blk_frozen h 0, blk_frozen h 1, blk_frozen h 2, blk_frozen h 3, blk_frozen h 4, blk_frozen h 5, blk_frozen h 6⟩
theorem sq_box8 {W : World} {g : Nat} {c0 c1 c2 c3 c4 c5 c6 c7 : Value} {t : TypeId} (h : W.heap[g]? = some (.cells #[c0, c1, c2, c3, c4, c5, c6, c7] t (0, 0))) : W.cell? ⟨g, 0, none⟩ = some c0 ∧ W.cell? ⟨g, 1, none⟩ = some c1 ∧ W.cell? ⟨g, 2, none⟩ = some c2 ∧ W.cell? ⟨g, 3, none⟩ = some c3 ∧ W.cell? ⟨g, 4, none⟩ = some c4 ∧ W.cell? ⟨g, 5, none⟩ = some c5 ∧ W.cell? ⟨g, 6, none⟩ = some c6 ∧ W.cell? ⟨g, 7, none⟩ = some c7 ∧ W.frozen? ⟨g, 0, none⟩ = false ∧ W.frozen? ⟨g, 1, none⟩ = false ∧ W.frozen? ⟨g, 2, none⟩ = false ∧ W.frozen? ⟨g, 3, none⟩ = false ∧ W.frozen? ⟨g, 4, none⟩ = false ∧ W.frozen? ⟨g, 5, none⟩ = false ∧ W.frozen? ⟨g, 6, none⟩ = false ∧ W.frozen? ⟨g, 7, none⟩ = false :=
 ⟨(blk_cell h 0).trans rfl, (blk_cell h 1).trans rfl, (blk_cell h 2).trans rfl, (blk_cell h 3).trans rfl, (blk_cell h 4).trans rfl, (blk_cell h 5).trans rfl, (blk_cell h 6).trans rfl, (blk_cell h 7).trans rfl, blk_frozen h 0, blk_frozen h 1, blk_frozen h 2, blk_frozen h 3, blk_frozen h 4, blk_frozen h 5, blk_frozen h 6, blk_frozen h 7⟩
def sqB (n m : Nat) : Array Bool := ((List.range n).map fun i => m.testBit i).toArray
abbrev Y1 := @pw_below_drewN
abbrev Y2 := @below_drew1
abbrev Y3 := @below_alloc
abbrev Y4 := @below_set
abbrev Y6 := @Kd.R_drewN
abbrev Y7 := @Kd.R_drew
abbrev Y11 := @blk_drewN
abbrev Y12 := @blk_alloc
abbrev Y13 := @blk_drew
abbrev Y0 := @Aside0.mk
abbrev Y14 := @List.setIfInBounds_toArray
abbrev Y15 := @List.set_cons_zero
abbrev Y16 := @List.set_cons_succ
abbrev Y17 := @Option.bind_eq_some_iff
theorem info5 : (Tryd.prog.info? 5).map (fun i => (i.zero, i.size, i.bytes)) = some (some (.int .u8 0), 1, 1) := by kernel_rfl
theorem info29 : (Tryd.prog.info? 29).map (fun i => (i.zero, i.size, i.bytes)) = some (some (.agg #[(.int .i64 0), (.string ⟨#[]⟩), (.int .i64 0), (.int .i64 0)]), 4, 40) := by kernel_rfl
theorem info39 : (Tryd.prog.info? 39).map (fun i => (i.zero, i.size, i.bytes)) = some (some (.agg #[(.int .i64 0), (.string ⟨#[]⟩), (.int .i64 0), (.int .i64 0), (.slice none 0 0)]), 5, 64) := by kernel_rfl
structure S29 where
 f0 : Int
 f1 : ByteArray
 f2 : Int
 f3 : Int
def z29 : S29 := ⟨(0 : Int), (⟨#[]⟩ : ByteArray), (0 : Int), (0 : Int)⟩
def k29 : Kd S29 := Kd.iso (Kd.pair (Kd.int .i64) (Kd.pair Kd.string (Kd.pair (Kd.int .i64) (Kd.int .i64)))) (fun x : S29 => (x.f0, x.f1, x.f2, x.f3))
theorem k29_open {w : World} {x : S29} {cs : List Value} (h : k29.K w x cs) : cs = [.int .i64 x.f0, .string x.f1, .int .i64 x.f2, .int .i64 x.f3] := by
 obtain ⟨_, _, rfl, rfl, ⟨_, _, rfl, rfl, ⟨_, _, rfl, rfl, rfl⟩⟩⟩ := h
 exact rfl
theorem k29_mkM (w : World) (base : Nat) (ok : Nat → Prop) (x : S29)  : k29.M w base ok x [.int .i64 x.f0, .string x.f1, .int .i64 x.f2, .int .i64 x.f3] := ⟨[.int .i64 x.f0], [.string x.f1, .int .i64 x.f2, .int .i64 x.f3], rfl, rfl, ⟨[.string x.f1], [.int .i64 x.f2, .int .i64 x.f3], rfl, rfl, ⟨[.int .i64 x.f2], [.int .i64 x.f3], rfl, rfl, rfl⟩⟩⟩
def rd_T29 (xs : List S29) (i : Int) : S29 := xs.getD i.toNat z29
theorem at_T29 {w : World} {A : Option Addr} {n : Nat} {xs : List S29} (h : Kd.C k29 w A n xs) (i : Int) (h0 : 0 ≤ i) (h1 : i < n) : ∃ ad , A = some ad ∧ w.cell? (ad.add (i.toNat * 4)) = some (.int .i64 (rd_T29 xs i).f0) ∧ w.cell? ⟨(ad.add (i.toNat * 4)).block, (ad.add (i.toNat * 4)).off + 1, none⟩ = some (.string (rd_T29 xs i).f1) ∧ w.cell? ⟨(ad.add (i.toNat * 4)).block, (ad.add (i.toNat * 4)).off + 2, none⟩ = some (.int .i64 (rd_T29 xs i).f2) ∧ w.cell? ⟨(ad.add (i.toNat * 4)).block, (ad.add (i.toNat * 4)).off + 3, none⟩ = some (.int .i64 (rd_T29 xs i).f3) := by
 obtain ⟨ad, c, e, _, hK, hc0⟩ := Kd.C_get h z29 i h0 h1
 have hc : ∀ j u, c[j]? = some u → w.cell? (ad.add (i.toNat * 4 + j)) = some u := hc0
 obtain rfl := k29_open hK
 exact ⟨ad, e, hc 0 _ rfl, by rw [← add_field _ _ 1 (by omega)]; exact hc 1 _ rfl, by rw [← add_field _ _ 2 (by omega)]; exact hc 2 _ rfl, by rw [← add_field _ _ 3 (by omega)]; exact hc 3 _ rfl⟩
structure S39 where
 f0 : Int
 f1 : ByteArray
 f2 : Int
 f3 : Int
 f4 : (List S39)
def z39 : S39 := ⟨(0 : Int), (⟨#[]⟩ : ByteArray), (0 : Int), (0 : Int), ([] : List S39)⟩
def F39 (d : Kd S39) : Kd S39 := Kd.iso (Kd.pair (Kd.int .i64) (Kd.pair Kd.string (Kd.pair (Kd.int .i64) (Kd.pair (Kd.int .i64) (Kd.slice 39 d))))) (fun x : S39 => (x.f0, x.f1, x.f2, x.f3, x.f4))
theorem mono39 : Kd.Mono F39 := Kd.mono_iso _ (Kd.mono_pair (Kd.mono_const _) (Kd.mono_pair (Kd.mono_const _) (Kd.mono_pair (Kd.mono_const _) (Kd.mono_pair (Kd.mono_const _) (Kd.mono_slice 39 Kd.mono_id)))))
theorem sub39 : Kd.Sub F39 [39] := Kd.sub_iso _ (Kd.sub_pair (Kd.sub_const _ (by decide)) (Kd.sub_pair (Kd.sub_const _ (by decide)) (Kd.sub_pair (Kd.sub_const _ (by decide)) (Kd.sub_pair (Kd.sub_const _ (by decide)) (Kd.sub_slice 39 (by decide) Kd.sub_id)))))
theorem sz39 : ∀ n, (Kd.upto F39 5 [39] n).sz = 5 := Kd.upto_sz (fun _ => rfl)
def k39 : Kd S39 := Kd.fix F39 5 [39] sz39 (Kd.upto_E sub39)
theorem k39_open {w : World} {x : S39} {cs : List Value} (h : k39.K w x cs) : ∃ A4 c4, cs = [.int .i64 x.f0, .string x.f1, .int .i64 x.f2, .int .i64 x.f3, .slice A4 x.f4.length c4] ∧ x.f4.length ≤ c4 ∧ k39.C w A4 x.f4.length x.f4 := by
 obtain ⟨n, h⟩ := h
 cases n with
 | zero => exact h.elim
 | succ n =>
  obtain ⟨_, _, rfl, rfl, ⟨_, _, rfl, rfl, ⟨_, _, rfl, rfl, ⟨_, _, rfl, rfl, ⟨A4, c4, rfl, l4, g4⟩⟩⟩⟩⟩ := h
  exact ⟨A4, c4, rfl, l4, Kd.fix_C g4⟩
theorem k39_openM {w : World} {base : Nat} {ok : Nat → Prop} {x : S39} {cs : List Value} (h : k39.M w base ok x cs) : ∃ v4, cs = [.int .i64 x.f0, .string x.f1, .int .i64 x.f2, .int .i64 x.f3, v4] ∧ k39.R 39 w base ok v4 x.f4 := by
 obtain ⟨n, h⟩ := h
 cases n with
 | zero => exact h.elim
 | succ n =>
  obtain ⟨_, _, rfl, rfl, ⟨_, _, rfl, rfl, ⟨_, _, rfl, rfl, ⟨_, _, rfl, rfl, ⟨v4, rfl, g4⟩⟩⟩⟩⟩ := h
  exact ⟨v4, rfl, Kd.fix_R g4⟩
theorem k39_mk (w : World) (x : S39) {A4 : Option Addr} {c4 : Nat} (l4 : x.f4.length ≤ c4) (g4 : k39.C w A4 x.f4.length x.f4) : k39.K w x [.int .i64 x.f0, .string x.f1, .int .i64 x.f2, .int .i64 x.f3, .slice A4 x.f4.length c4] := by
 obtain ⟨n4, q4⟩ := Kd.fix_C_back mono39 g4
 have r4 := Kd.upto_C_le mono39 sz39 (show n4 ≤ n4 by omega) q4
 exact ⟨n4 + 1, ⟨[.int .i64 x.f0], [.string x.f1, .int .i64 x.f2, .int .i64 x.f3, .slice A4 x.f4.length c4], rfl, rfl, ⟨[.string x.f1], [.int .i64 x.f2, .int .i64 x.f3, .slice A4 x.f4.length c4], rfl, rfl, ⟨[.int .i64 x.f2], [.int .i64 x.f3, .slice A4 x.f4.length c4], rfl, rfl, ⟨[.int .i64 x.f3], [.slice A4 x.f4.length c4], rfl, rfl, ⟨A4, c4, rfl, l4, r4⟩⟩⟩⟩⟩⟩
theorem k39_mkM (w : World) (base : Nat) (ok : Nat → Prop) (x : S39) {v4 : Value} (g4 : k39.R 39 w base ok v4 x.f4) : k39.M w base ok x [.int .i64 x.f0, .string x.f1, .int .i64 x.f2, .int .i64 x.f3, v4] := by
 obtain ⟨n4, q4⟩ := Kd.fix_R_back mono39 g4
 have r4 := Kd.upto_R_le mono39 sz39 (show n4 ≤ n4 by omega) q4
 exact ⟨n4 + 1, ⟨[.int .i64 x.f0], [.string x.f1, .int .i64 x.f2, .int .i64 x.f3, v4], rfl, rfl, ⟨[.string x.f1], [.int .i64 x.f2, .int .i64 x.f3, v4], rfl, rfl, ⟨[.int .i64 x.f2], [.int .i64 x.f3, v4], rfl, rfl, ⟨[.int .i64 x.f3], [v4], rfl, rfl, ⟨v4, rfl, r4⟩⟩⟩⟩⟩⟩
def rd_T39 (xs : List S39) (i : Int) : S39 := xs.getD i.toNat z39
theorem at_T39 {w : World} {A : Option Addr} {n : Nat} {xs : List S39} (h : Kd.C k39 w A n xs) (i : Int) (h0 : 0 ≤ i) (h1 : i < n) : ∃ ad A4 c4, A = some ad ∧ w.cell? (ad.add (i.toNat * 5)) = some (.int .i64 (rd_T39 xs i).f0) ∧ w.cell? ⟨(ad.add (i.toNat * 5)).block, (ad.add (i.toNat * 5)).off + 1, none⟩ = some (.string (rd_T39 xs i).f1) ∧ w.cell? ⟨(ad.add (i.toNat * 5)).block, (ad.add (i.toNat * 5)).off + 2, none⟩ = some (.int .i64 (rd_T39 xs i).f2) ∧ w.cell? ⟨(ad.add (i.toNat * 5)).block, (ad.add (i.toNat * 5)).off + 3, none⟩ = some (.int .i64 (rd_T39 xs i).f3) ∧ w.cell? ⟨(ad.add (i.toNat * 5)).block, (ad.add (i.toNat * 5)).off + 4, none⟩ = some (.slice A4 (rd_T39 xs i).f4.length c4) ∧ (rd_T39 xs i).f4.length ≤ c4 ∧ k39.C w A4 (rd_T39 xs i).f4.length (rd_T39 xs i).f4 := by
 obtain ⟨ad, c, e, _, hK, hc0⟩ := Kd.C_get h z39 i h0 h1
 have hc : ∀ j u, c[j]? = some u → w.cell? (ad.add (i.toNat * 5 + j)) = some u := hc0
 obtain ⟨A4, c4, rfl, l4, g4⟩ := k39_open hK
 exact ⟨ad, A4, c4, e, hc 0 _ rfl, by rw [← add_field _ _ 1 (by omega)]; exact hc 1 _ rfl, by rw [← add_field _ _ 2 (by omega)]; exact hc 2 _ rfl, by rw [← add_field _ _ 3 (by omega)]; exact hc 3 _ rfl, by rw [← add_field _ _ 4 (by omega)]; exact hc 4 _ rfl, l4, g4⟩
def truffleref14_place.f (l0 : List (S29)) (a1 : Int) (a2 : Int) : Option (Int) := if a1 < (l0.length : Int) then (if 0 ≤ a1 then (some ((rd_T29 l0 a1).f3)) else (none)) else (some a2)
set_option maxHeartbeats 8000000 in
set_option maxRecDepth 100000 in
theorem truffleref14_place.calls (A0 : Option Addr) (c0 : Nat) (l0 : List (S29)) (a1 : Int) (a2 : Int) (r : Int) (w : World) (hr0 : Kd.C k29 w A0 l0.length l0) (hc0 : l0.length ≤ c0) (h : truffleref14_place.f l0 a1 a2 = some r) :
  Calls Tryd.prog 49 #[.slice A0 l0.length c0, .int .i64 a1, .int .i64 a2] w fun e w' => e = .returned (.int .i64 r) ∧ Drawn0 w w' := by
 have HR0 := Y0 hr0
 have HC0 := Y0 hc0
 clear hr0 hc0
 have H : (if a1 < (l0.length : Int) then (if 0 ≤ a1 then (some ((rd_T29 l0 a1).f3)) else (none)) else (some a2)) = some r := h
 clear h
 by_cases c4 : a1 < (l0.length : Int)
 rotate_left
 ·rw [if_neg c4] at H
  have c4b0 : decide (a1 < (l0.length : Int)) = false := decide_eq_false c4
  clear c4
  obtain rfl := Option.some.inj H
  go_enter Tryd.func49, Tryd.ntmps49
  go_wp2
  go_ret
  exact ⟨by first | rfl | (simp; done) | (simp [*]; done), by repeat (first | exact Drawn0.refl _ | apply Drawn0.step)⟩
 rw [if_pos c4] at H
 have c4b0 : decide (a1 < (l0.length : Int)) = true := decide_eq_true c4
 clear c4
 by_cases c5 : 0 ≤ a1
 rotate_left
 ·rw [if_neg c5] at H
  exact absurd H (by simp)
 rw [if_pos c5] at H
 have c5b0 : decide (0 ≤ a1) = true := decide_eq_true c5
 clear c5
 obtain rfl := Option.some.inj H
 have p377 : 0 ≤ (a1 : Int) := of_decide_eq_true (by first | (with_reducible assumption) | assumption)
 have q377 : a1 < (l0.length : Int) := of_decide_eq_true (by first | (with_reducible assumption) | assumption)
 obtain ⟨ad377, e377, hx377_0, hx377_1, hx377_2, hx377_3⟩ := at_T29 HR0.out a1 p377 q377
 cases e377
 replace p377 := eq_true p377
 replace q377 := eq_true q377
 go_enter Tryd.func49, Tryd.ntmps49
 go_wp2
 go_ret
 exact ⟨by first | rfl | (simp; done) | (simp [*]; done), by repeat (first | exact Drawn0.refl _ | apply Drawn0.step)⟩
mutual
def truffleref06_blank.l0 : Nat → ByteArray → Int → Option (Int)
 | 0, _, _ => none
 | k + 1, x0, x1 => if x1 < (x0.size : Int) then (if 0 ≤ x1 then (if (bt x0 x1) = 32 then (truffleref06_blank.j1 k x0 x1 (bt x0 x1) true) else (if (bt x0 x1) = 9 then (truffleref06_blank.j1 k x0 x1 (bt x0 x1) true) else (if (bt x0 x1) = 10 then (truffleref06_blank.j1 k x0 x1 (bt x0 x1) true) else (truffleref06_blank.j1 k x0 x1 (bt x0 x1) ((bt x0 x1) == 13))))) else (none)) else (some x1)
def truffleref06_blank.j1 : Nat → ByteArray → Int → Int → Bool → Option (Int)
 | 0, _, _, _, _ => none
 | k + 1, x0, x1, x5, x26 => if x26 = true then (truffleref06_blank.l0 k x0 (wrap64 (x1 + 1))) else (if (wrap64 (x1 + 1)) ≥ (x0.size : Int) then (truffleref06_blank.j2 k x0 x1 true) else (if x5 = 47 then (if 0 ≤ (wrap64 (x1 + 1)) then (if (wrap64 (x1 + 1)) < (x0.size : Int) then (truffleref06_blank.j2 k x0 x1 ((bt x0 (wrap64 (x1 + 1))) != 47)) else (none)) else (none)) else (truffleref06_blank.j2 k x0 x1 true)))
def truffleref06_blank.j2 : Nat → ByteArray → Int → Bool → Option (Int)
 | 0, _, _, _ => none
 | k + 1, x0, x1, x44 => if x44 = true then (some x1) else (truffleref06_blank.l1 k x0 x1)
def truffleref06_blank.l1 : Nat → ByteArray → Int → Option (Int)
 | 0, _, _ => none
 | k + 1, x0, x1 => if x1 < (x0.size : Int) then (if 0 ≤ x1 then (if (bt x0 x1) = 10 then (truffleref06_blank.l0 k x0 x1) else (truffleref06_blank.l1 k x0 (wrap64 (x1 + 1)))) else (none)) else (truffleref06_blank.l0 k x0 x1)
end
def truffleref06_blank.f (k : Nat) (a0 : ByteArray) (a1 : Int) : Option (Int) := truffleref06_blank.l0 k a0 a1
set_option maxHeartbeats 8000000 in
set_option maxRecDepth 100000 in
theorem truffleref06_blank.calls (k : Nat) (a0 : ByteArray) (a1 : Int) (r : Int) (w : World) (h : truffleref06_blank.f k a0 a1 = some r) :
  Calls Tryd.prog 39 #[.string a0, .int .i64 a1] w fun e w' => e = .returned (.int .i64 r) ∧ Drawn0 w w' := by
 have H : (truffleref06_blank.l0 k a0 a1) = some r := h
 clear h
 have H' := Y0 H
 clear H
 go_enter Tryd.func39, Tryd.ntmps39
 go_wp2
 go_loopg [1] k (fun kq v1 w' => ∃ (x1_1 : Int), v1 = .int .i64 x1_1 ∧ Aside0 (truffleref06_blank.l0 kq a0 x1_1 = some r) ∧ Aside0 (kq ≤ k) ∧ Drawn0 w w')
 case atStart => exact ⟨(a1), (by first | rfl | (simp; done) | (simp [*]; done)), H', ⟨Nat.le_refl _⟩, by repeat (first | exact Drawn0.refl _ | apply Drawn0.step)⟩
 case round =>
  clear H'
  obtain ⟨x1_1, rfl, HA, HK1, ⟨m1, rfl⟩⟩ := hrel
  cases gk with
  | zero => exact absurd HA.out (by simp [truffleref06_blank.l0])
  | succ k1 =>
   have H := HA.out
   clear HA
   simp only [truffleref06_blank.l0] at H
   by_cases c3 : x1_1 < (a0.size : Int)
   rotate_left
   ·rw [if_neg c3] at H
    have c3b0 : decide (x1_1 < (a0.size : Int)) = false := decide_eq_false c3
    clear c3
    obtain rfl := Option.some.inj H
    go_wp2
    go_ret
    exact ⟨by first | rfl | (simp; done) | (simp [*]; done), by repeat (first | exact Drawn0.refl _ | apply Drawn0.step)⟩
   rw [if_pos c3] at H
   have c3b0 : decide (x1_1 < (a0.size : Int)) = true := decide_eq_true c3
   clear c3
   by_cases c4 : 0 ≤ x1_1
   rotate_left
   ·rw [if_neg c4] at H
    exact absurd H (by simp)
   rw [if_pos c4] at H
   have c4b0 : decide (0 ≤ x1_1) = true := decide_eq_true c4
   clear c4
   have HC6 := Y0 H
   clear H
   have p5 : 0 ≤ (x1_1 : Int) := of_decide_eq_true (by first | (with_reducible assumption) | assumption)
   have q5 : x1_1 < (a0.size : Int) := of_decide_eq_true (by first | (with_reducible assumption) | assumption)
   have hx5 := bt_at a0 x1_1
   replace p5 := eq_true p5
   replace q5 := eq_true q5
   go_upto_region 3 with (fail)
   go_cut [26] (fun v26 wc => ∃ (kq : Nat) (x26_5 : Bool), v26 = .bool x26_5 ∧ Aside0 (truffleref06_blank.j1 kq a0 x1_1 (bt a0 x1_1) x26_5 = some r) ∧ Aside0 (kq ≤ k1) ∧ Drawn0 w wc)
   case first =>
    have H := HC6.out
    clear HC6
    by_cases c7 : (bt a0 x1_1) = 32
    ·rw [if_pos c7] at H
     have c7b0 : ((bt a0 x1_1) == 32) = true := beq_iff_eq.mpr c7
     have c7b1 : ((bt a0 x1_1) != 32) = false := bne_eq_false_iff_eq.mpr c7
     clear c7
     (first | rw [c7b0] | (simp only [i64_w]; rw [c7b0]) | skip)
     have H' := Y0 H
     clear H
     go_wp2
     go_meet
     case rel => exact ⟨_, (true), (by first | rfl | (simp; done) | (simp [*]; done)), H', ⟨by have := HK1.out; first | omega | exact Nat.le_refl _⟩, by repeat (first | exact Drawn0.refl _ | apply Drawn0.step)⟩
    rw [if_neg c7] at H
    have c7b0 : ((bt a0 x1_1) == 32) = false := beq_eq_false_iff_ne.mpr c7
    have c7b1 : ((bt a0 x1_1) != 32) = true := bne_iff_ne.mpr c7
    (first | rw [c7b0] | (simp only [i64_w]; rw [c7b0]) | skip)
    by_cases c8 : (bt a0 x1_1) = 9
    ·rw [if_pos c8] at H
     have c8b0 : ((bt a0 x1_1) == 9) = true := beq_iff_eq.mpr c8
     have c8b1 : ((bt a0 x1_1) != 9) = false := bne_eq_false_iff_eq.mpr c8
     clear c8
     have H' := Y0 H
     clear H
     go_wp2
     go_meet
     case rel => exact ⟨_, (true), (by first | rfl | (simp; done) | (simp [*]; done)), H', ⟨by have := HK1.out; first | omega | exact Nat.le_refl _⟩, by repeat (first | exact Drawn0.refl _ | apply Drawn0.step)⟩
    rw [if_neg c8] at H
    have c8b0 : ((bt a0 x1_1) == 9) = false := beq_eq_false_iff_ne.mpr c8
    have c8b1 : ((bt a0 x1_1) != 9) = true := bne_iff_ne.mpr c8
    by_cases c9 : (bt a0 x1_1) = 10
    rotate_left
    ·rw [if_neg c9] at H
     have c9b0 : ((bt a0 x1_1) == 10) = false := beq_eq_false_iff_ne.mpr c9
     have c9b1 : ((bt a0 x1_1) != 10) = true := bne_iff_ne.mpr c9
     have H' := Y0 H
     clear H
     go_wp2
     go_meet
     case rel => exact ⟨_, (((bt a0 x1_1) == 13)), (by first | rfl | (simp; done) | (simp [*]; done)), H', ⟨by have := HK1.out; first | omega | exact Nat.le_refl _⟩, by repeat (first | exact Drawn0.refl _ | apply Drawn0.step)⟩
    rw [if_pos c9] at H
    have c9b0 : ((bt a0 x1_1) == 10) = true := beq_iff_eq.mpr c9
    have c9b1 : ((bt a0 x1_1) != 10) = false := bne_eq_false_iff_eq.mpr c9
    clear c9
    have H' := Y0 H
    clear H
    go_wp2
    go_meet
    case rel => exact ⟨_, (true), (by first | rfl | (simp; done) | (simp [*]; done)), H', ⟨by have := HK1.out; first | omega | exact Nat.le_refl _⟩, by repeat (first | exact Drawn0.refl _ | apply Drawn0.step)⟩
   case rest =>
    clear HC6
    obtain ⟨kq, x26_5, rfl, HA, HJ5, ⟨mc5, rfl⟩⟩ := hcut
    cases kq with
    | zero => exact absurd HA.out (by simp [truffleref06_blank.j1])
    | succ kj5 =>
     have H := HA.out
     clear HA
     simp only [truffleref06_blank.j1] at H
     by_cases c10 : x26_5 = true
     ·subst c10
      rw [if_pos rfl] at H
      have H' := Y0 H
      clear H
      go_wp2
      go_roundg kj5
      case measure => have := HK1.out; have := HJ5.out; omega
      case rel => exact ⟨(wrap64 (x1_1 + 1)), (by first | rfl | (simp; done) | (simp [*]; done)), H', ⟨by have := HK1.out; have := HJ5.out; omega⟩, by repeat (first | exact Drawn0.refl _ | apply Drawn0.step)⟩
     replace c10 := Bool.eq_false_iff.mpr c10
     subst c10
     rw [if_neg (show ¬ (false = true) by decide)] at H
     have HC11 := Y0 H
     clear H
     go_upto_region 5 with (fail)
     go_cut [44] (fun v44 wc => ∃ (kq : Nat) (x44_10 : Bool), v44 = .bool x44_10 ∧ Aside0 (truffleref06_blank.j2 kq a0 x1_1 x44_10 = some r) ∧ Aside0 (kq ≤ kj5) ∧ Drawn0 w wc)
     case first =>
      have H := HC11.out
      clear HC11
      by_cases c12 : (wrap64 (x1_1 + 1)) ≥ (a0.size : Int)
      ·rw [if_pos c12] at H
       have c12b0 : decide ((a0.size : Int) ≤ (wrap64 (x1_1 + 1))) = true := decide_eq_true c12
       clear c12
       (first | rw [c12b0] | (simp only [i64_w]; rw [c12b0]) | skip)
       have H' := Y0 H
       clear H
       go_wp2
       go_meet
       case rel => exact ⟨_, (true), (by first | rfl | (simp; done) | (simp [*]; done)), H', ⟨by have := HK1.out; have := HJ5.out; first | omega | exact Nat.le_refl _⟩, by repeat (first | exact Drawn0.refl _ | apply Drawn0.step)⟩
      rw [if_neg c12] at H
      have c12b0 : decide ((a0.size : Int) ≤ (wrap64 (x1_1 + 1))) = false := decide_eq_false c12
      clear c12
      (first | rw [c12b0] | (simp only [i64_w]; rw [c12b0]) | skip)
      by_cases c13 : (bt a0 x1_1) = 47
      rotate_left
      ·rw [if_neg c13] at H
       have c13b0 : ((bt a0 x1_1) == 47) = false := beq_eq_false_iff_ne.mpr c13
       have c13b1 : ((bt a0 x1_1) != 47) = true := bne_iff_ne.mpr c13
       have H' := Y0 H
       clear H
       go_wp2
       go_meet
       case rel => exact ⟨_, (true), (by first | rfl | (simp; done) | (simp [*]; done)), H', ⟨by have := HK1.out; have := HJ5.out; first | omega | exact Nat.le_refl _⟩, by repeat (first | exact Drawn0.refl _ | apply Drawn0.step)⟩
      rw [if_pos c13] at H
      have c13b0 : ((bt a0 x1_1) == 47) = true := beq_iff_eq.mpr c13
      have c13b1 : ((bt a0 x1_1) != 47) = false := bne_eq_false_iff_eq.mpr c13
      clear c13
      obtain ⟨ji14, hji14⟩ : ∃ j_ : Int, (wrap64 (x1_1 + 1)) = j_ := ⟨_, rfl⟩
      replace H : (if 0 ≤ (ji14) then (if (ji14) < (a0.size : Int) then (truffleref06_blank.j2 kj5 a0 x1_1 ((bt a0 (ji14)) != 47)) else (none)) else (none)) = some r := by first | (rw [hji14] at H; exact H) | (simp only [hji14] at H ⊢; exact H)
      (try rw [hji14] at c12b0)
      have hji14w : (IntKind.i64.wrap (x1_1 + 1)) = ji14 := (i64_w _).trans hji14
      by_cases c15 : 0 ≤ (ji14)
      rotate_left
      ·rw [if_neg c15] at H
       exact absurd H (by simp)
      rw [if_pos c15] at H
      have c15b0 : decide (0 ≤ (ji14)) = true := decide_eq_true c15
      clear c15
      by_cases c16 : (ji14) < (a0.size : Int)
      rotate_left
      ·rw [if_neg c16] at H
       exact absurd H (by simp)
      rw [if_pos c16] at H
      have c16b0 : decide ((ji14) < (a0.size : Int)) = true := decide_eq_true c16
      clear c16
      have H' := Y0 H
      clear H
      have p17 : 0 ≤ ((ji14) : Int) := of_decide_eq_true (by first | (with_reducible assumption) | assumption)
      have q17 : (ji14) < (a0.size : Int) := of_decide_eq_true (by first | (with_reducible assumption) | assumption)
      have hx17 := bt_at a0 (ji14)
      replace p17 := eq_true p17
      replace q17 := eq_true q17
      go_wp2
      go_meet
      case rel => exact ⟨_, (((bt a0 (ji14)) != 47)), (by first | rfl | (simp; done) | (simp only [← hji14] <;> (first | rfl | simp)) | (simp [*]; done)), H', ⟨by have := HK1.out; have := HJ5.out; first | omega | exact Nat.le_refl _⟩, by repeat (first | exact Drawn0.refl _ | apply Drawn0.step)⟩
     case rest =>
      clear HC11
      obtain ⟨kq, x44_10, rfl, HA, HJ10, ⟨mc10, rfl⟩⟩ := hcut
      cases kq with
      | zero => exact absurd HA.out (by simp [truffleref06_blank.j2])
      | succ kj10 =>
       have H := HA.out
       clear HA
       simp only [truffleref06_blank.j2] at H
       by_cases c18 : x44_10 = true
       ·subst c18
        rw [if_pos rfl] at H
        obtain rfl := Option.some.inj H
        go_wp2
        go_ret
        exact ⟨by first | rfl | (simp; done) | (simp [*]; done), by repeat (first | exact Drawn0.refl _ | apply Drawn0.step)⟩
       replace c18 := Bool.eq_false_iff.mpr c18
       subst c18
       rw [if_neg (show ¬ (false = true) by decide)] at H
       have H' := Y0 H
       clear H
       go_wp2
       go_loopg [1] kj10 (fun kq v1 w' => ∃ (x1_4 : Int), v1 = .int .i64 x1_4 ∧ Aside0 (truffleref06_blank.l1 kq a0 x1_4 = some r) ∧ Aside0 (kq ≤ kj10) ∧ Drawn0 w w')
       case atStart => exact ⟨(x1_1), (by first | rfl | (simp; done) | (simp [*]; done)), H', ⟨Nat.le_refl _⟩, by repeat (first | exact Drawn0.refl _ | apply Drawn0.step)⟩
       case round =>
        clear H'
        obtain ⟨x1_4, rfl, HA, HK4, ⟨m4, rfl⟩⟩ := hrel
        cases gk with
        | zero => exact absurd HA.out (by simp [truffleref06_blank.l1])
        | succ k4 =>
         have H := HA.out
         clear HA
         simp only [truffleref06_blank.l1] at H
         by_cases c19 : x1_4 < (a0.size : Int)
         rotate_left
         ·rw [if_neg c19] at H
          have c19b0 : decide (x1_4 < (a0.size : Int)) = false := decide_eq_false c19
          clear c19
          have H' := Y0 H
          clear H
          go_wp2
          go_roundg k4
          case measure => have := HK1.out; have := HJ5.out; have := HJ10.out; have := HK4.out; omega
          case rel => exact ⟨(x1_4), (by first | rfl | (simp; done) | (simp [*]; done)), H', ⟨by have := HK1.out; have := HJ5.out; have := HJ10.out; have := HK4.out; omega⟩, by repeat (first | exact Drawn0.refl _ | apply Drawn0.step)⟩
         rw [if_pos c19] at H
         have c19b0 : decide (x1_4 < (a0.size : Int)) = true := decide_eq_true c19
         clear c19
         by_cases c20 : 0 ≤ x1_4
         rotate_left
         ·rw [if_neg c20] at H
          exact absurd H (by simp)
         rw [if_pos c20] at H
         have c20b0 : decide (0 ≤ x1_4) = true := decide_eq_true c20
         clear c20
         by_cases c22 : (bt a0 x1_4) = 10
         rotate_left
         ·rw [if_neg c22] at H
          have c22b0 : ((bt a0 x1_4) == 10) = false := beq_eq_false_iff_ne.mpr c22
          have c22b1 : ((bt a0 x1_4) != 10) = true := bne_iff_ne.mpr c22
          have H' := Y0 H
          clear H
          have p21 : 0 ≤ (x1_4 : Int) := of_decide_eq_true (by first | (with_reducible assumption) | assumption)
          have q21 : x1_4 < (a0.size : Int) := of_decide_eq_true (by first | (with_reducible assumption) | assumption)
          have hx21 := bt_at a0 x1_4
          replace p21 := eq_true p21
          replace q21 := eq_true q21
          go_wp2
          go_roundg k4
          case measure => have := HK1.out; have := HJ5.out; have := HJ10.out; have := HK4.out; omega
          case rel => exact ⟨(wrap64 (x1_4 + 1)), (by first | rfl | (simp; done) | (simp [*]; done)), H', ⟨by have := HK1.out; have := HJ5.out; have := HJ10.out; have := HK4.out; omega⟩, by repeat (first | exact Drawn0.refl _ | apply Drawn0.step)⟩
         rw [if_pos c22] at H
         have c22b0 : ((bt a0 x1_4) == 10) = true := beq_iff_eq.mpr c22
         have c22b1 : ((bt a0 x1_4) != 10) = false := bne_eq_false_iff_eq.mpr c22
         clear c22
         have H' := Y0 H
         clear H
         have p21 : 0 ≤ (x1_4 : Int) := of_decide_eq_true (by first | (with_reducible assumption) | assumption)
         have q21 : x1_4 < (a0.size : Int) := of_decide_eq_true (by first | (with_reducible assumption) | assumption)
         have hx21 := bt_at a0 x1_4
         replace p21 := eq_true p21
         replace q21 := eq_true q21
         go_wp2
         go_roundg k4
         case measure => have := HK1.out; have := HJ5.out; have := HJ10.out; have := HK4.out; omega
         case rel => exact ⟨(x1_4), (by first | rfl | (simp; done) | (simp [*]; done)), H', ⟨by have := HK1.out; have := HJ5.out; have := HJ10.out; have := HK4.out; omega⟩, by repeat (first | exact Drawn0.refl _ | apply Drawn0.step)⟩
def truffleref06_letter.f (a0 : Int) : Option (Bool) := if a0 ≥ 97 then (if a0 ≤ 122 then (some true) else (if a0 ≥ 65 then (if a0 ≤ 90 then (some true) else (some (a0 == 95))) else (some (a0 == 95)))) else (if a0 ≥ 65 then (if a0 ≤ 90 then (some true) else (some (a0 == 95))) else (some (a0 == 95)))
set_option maxHeartbeats 8000000 in
set_option maxRecDepth 100000 in
theorem truffleref06_letter.calls (a0 : Int) (r : Bool) (w : World) (h : truffleref06_letter.f a0 = some r) :
  Calls Tryd.prog 63 #[.int .u8 a0] w fun e w' => e = .returned (.bool r) ∧ Drawn0 w w' := by
 have H : (if a0 ≥ 97 then (if a0 ≤ 122 then (some true) else (if a0 ≥ 65 then (if a0 ≤ 90 then (some true) else (some (a0 == 95))) else (some (a0 == 95)))) else (if a0 ≥ 65 then (if a0 ≤ 90 then (some true) else (some (a0 == 95))) else (some (a0 == 95)))) = some r := h
 clear h
 by_cases c2 : a0 ≥ 97
 rotate_left
 ·rw [if_neg c2] at H
  have c2b0 : decide (97 ≤ a0) = false := decide_eq_false c2
  clear c2
  by_cases c6 : a0 ≥ 65
  rotate_left
  ·rw [if_neg c6] at H
   have c6b0 : decide (65 ≤ a0) = false := decide_eq_false c6
   clear c6
   obtain rfl := Option.some.inj H
   go_enter Tryd.func63, Tryd.ntmps63
   go_wp2
   go_ret
   exact ⟨by first | rfl | (simp; done) | (simp [*]; done), by repeat (first | exact Drawn0.refl _ | apply Drawn0.step)⟩
  rw [if_pos c6] at H
  have c6b0 : decide (65 ≤ a0) = true := decide_eq_true c6
  clear c6
  by_cases c7 : a0 ≤ 90
  ·rw [if_pos c7] at H
   have c7b0 : decide (a0 ≤ 90) = true := decide_eq_true c7
   clear c7
   obtain rfl := Option.some.inj H
   go_enter Tryd.func63, Tryd.ntmps63
   go_wp2
   go_ret
   exact ⟨by first | rfl | (simp; done) | (simp [*]; done), by repeat (first | exact Drawn0.refl _ | apply Drawn0.step)⟩
  rw [if_neg c7] at H
  have c7b0 : decide (a0 ≤ 90) = false := decide_eq_false c7
  clear c7
  obtain rfl := Option.some.inj H
  go_enter Tryd.func63, Tryd.ntmps63
  go_wp2
  go_ret
  exact ⟨by first | rfl | (simp; done) | (simp [*]; done), by repeat (first | exact Drawn0.refl _ | apply Drawn0.step)⟩
 rw [if_pos c2] at H
 have c2b0 : decide (97 ≤ a0) = true := decide_eq_true c2
 clear c2
 by_cases c3 : a0 ≤ 122
 ·rw [if_pos c3] at H
  have c3b0 : decide (a0 ≤ 122) = true := decide_eq_true c3
  clear c3
  obtain rfl := Option.some.inj H
  go_enter Tryd.func63, Tryd.ntmps63
  go_wp2
  go_ret
  exact ⟨by first | rfl | (simp; done) | (simp [*]; done), by repeat (first | exact Drawn0.refl _ | apply Drawn0.step)⟩
 rw [if_neg c3] at H
 have c3b0 : decide (a0 ≤ 122) = false := decide_eq_false c3
 clear c3
 by_cases c4 : a0 ≥ 65
 rotate_left
 ·rw [if_neg c4] at H
  have c4b0 : decide (65 ≤ a0) = false := decide_eq_false c4
  clear c4
  obtain rfl := Option.some.inj H
  go_enter Tryd.func63, Tryd.ntmps63
  go_wp2
  go_ret
  exact ⟨by first | rfl | (simp; done) | (simp [*]; done), by repeat (first | exact Drawn0.refl _ | apply Drawn0.step)⟩
 rw [if_pos c4] at H
 have c4b0 : decide (65 ≤ a0) = true := decide_eq_true c4
 clear c4
 by_cases c5 : a0 ≤ 90
 ·rw [if_pos c5] at H
  have c5b0 : decide (a0 ≤ 90) = true := decide_eq_true c5
  clear c5
  obtain rfl := Option.some.inj H
  go_enter Tryd.func63, Tryd.ntmps63
  go_wp2
  go_ret
  exact ⟨by first | rfl | (simp; done) | (simp [*]; done), by repeat (first | exact Drawn0.refl _ | apply Drawn0.step)⟩
 rw [if_neg c5] at H
 have c5b0 : decide (a0 ≤ 90) = false := decide_eq_false c5
 clear c5
 obtain rfl := Option.some.inj H
 go_enter Tryd.func63, Tryd.ntmps63
 go_wp2
 go_ret
 exact ⟨by first | rfl | (simp; done) | (simp [*]; done), by repeat (first | exact Drawn0.refl _ | apply Drawn0.step)⟩
def truffleref06_digit.f (a0 : Int) : Option (Bool) := if a0 ≥ 48 then (some (decide (a0 ≤ 57))) else (some false)
set_option maxHeartbeats 8000000 in
set_option maxRecDepth 100000 in
theorem truffleref06_digit.calls (a0 : Int) (r : Bool) (w : World) (h : truffleref06_digit.f a0 = some r) :
  Calls Tryd.prog 64 #[.int .u8 a0] w fun e w' => e = .returned (.bool r) ∧ Drawn0 w w' := by
 have H : (if a0 ≥ 48 then (some (decide (a0 ≤ 57))) else (some false)) = some r := h
 clear h
 by_cases c2 : a0 ≥ 48
 ·rw [if_pos c2] at H
  have c2b0 : decide (48 ≤ a0) = true := decide_eq_true c2
  clear c2
  obtain rfl := Option.some.inj H
  go_enter Tryd.func64, Tryd.ntmps64
  go_wp2
  go_ret
  exact ⟨by first | rfl | (simp; done) | (simp [*]; done), by repeat (first | exact Drawn0.refl _ | apply Drawn0.step)⟩
 rw [if_neg c2] at H
 have c2b0 : decide (48 ≤ a0) = false := decide_eq_false c2
 clear c2
 obtain rfl := Option.some.inj H
 go_enter Tryd.func64, Tryd.ntmps64
 go_wp2
 go_ret
 exact ⟨by first | rfl | (simp; done) | (simp [*]; done), by repeat (first | exact Drawn0.refl _ | apply Drawn0.step)⟩
def truffleref06_Digits.f : Nat → Int → Option (ByteArray)
 | 0, _ => none
 | k + 1, a0 => if a0 < 0 then (if a0 = (-9223372036854775808) then (some (⟨#[45, 57, 50, 50, 51, 51, 55, 50, 48, 51, 54, 56, 53, 52, 55, 55, 53, 56, 48, 56]⟩ : ByteArray)) else ((truffleref06_Digits.f k (wrap64 (-a0))).bind fun t202 => (if 1 + t202.size ≤ 9223372036854775807 then (some ((⟨#[45]⟩ : ByteArray) ++ t202)) else (none)))) else (if 0 ≤ (Int.tmod a0 10) then (if (Int.tmod a0 10) ≤ (wrap64 ((Int.tmod a0 10) + 1)) then (if (wrap64 ((Int.tmod a0 10) + 1)) ≤ 10 then (if a0 < 10 then (some ((⟨#[48, 49, 50, 51, 52, 53, 54, 55, 56, 57]⟩ : ByteArray).extract ((Int.tmod a0 10) : Int).toNat ((wrap64 ((Int.tmod a0 10) + 1)) : Int).toNat)) else ((truffleref06_Digits.f k (wrap64 (Int.tdiv a0 10))).bind fun t203 => (if t203.size + ((⟨#[48, 49, 50, 51, 52, 53, 54, 55, 56, 57]⟩ : ByteArray).extract ((Int.tmod a0 10) : Int).toNat ((wrap64 ((Int.tmod a0 10) + 1)) : Int).toNat).size ≤ 9223372036854775807 then (some (t203 ++ ((⟨#[48, 49, 50, 51, 52, 53, 54, 55, 56, 57]⟩ : ByteArray).extract ((Int.tmod a0 10) : Int).toNat ((wrap64 ((Int.tmod a0 10) + 1)) : Int).toNat))) else (none)))) else (none)) else (none)) else (none))
set_option maxHeartbeats 8000000 in
set_option maxRecDepth 100000 in
theorem truffleref06_Digits.calls (k : Nat) : ∀ (a0 : Int) (r : ByteArray) (w : World) (h : truffleref06_Digits.f k a0 = some r),
  Calls Tryd.prog 22 #[.int .i64 a0] w fun e w' => e = .returned (.string r) ∧ Drawn0 w w' := by
 induction k using Nat.strongRecOn with
 | _ k ih =>
 intro a0 r w h
 cases k with
 | zero => exact absurd h (by simp [truffleref06_Digits.f])
 | succ k =>
 simp only [truffleref06_Digits.f] at h
 have H : (if a0 < 0 then (if a0 = (-9223372036854775808) then (some (⟨#[45, 57, 50, 50, 51, 51, 55, 50, 48, 51, 54, 56, 53, 52, 55, 55, 53, 56, 48, 56]⟩ : ByteArray)) else ((truffleref06_Digits.f k (wrap64 (-a0))).bind fun t202 => (if 1 + t202.size ≤ 9223372036854775807 then (some ((⟨#[45]⟩ : ByteArray) ++ t202)) else (none)))) else (if 0 ≤ (Int.tmod a0 10) then (if (Int.tmod a0 10) ≤ (wrap64 ((Int.tmod a0 10) + 1)) then (if (wrap64 ((Int.tmod a0 10) + 1)) ≤ 10 then (if a0 < 10 then (some ((⟨#[48, 49, 50, 51, 52, 53, 54, 55, 56, 57]⟩ : ByteArray).extract ((Int.tmod a0 10) : Int).toNat ((wrap64 ((Int.tmod a0 10) + 1)) : Int).toNat)) else ((truffleref06_Digits.f k (wrap64 (Int.tdiv a0 10))).bind fun t203 => (if t203.size + ((⟨#[48, 49, 50, 51, 52, 53, 54, 55, 56, 57]⟩ : ByteArray).extract ((Int.tmod a0 10) : Int).toNat ((wrap64 ((Int.tmod a0 10) + 1)) : Int).toNat).size ≤ 9223372036854775807 then (some (t203 ++ ((⟨#[48, 49, 50, 51, 52, 53, 54, 55, 56, 57]⟩ : ByteArray).extract ((Int.tmod a0 10) : Int).toNat ((wrap64 ((Int.tmod a0 10) + 1)) : Int).toNat))) else (none)))) else (none)) else (none)) else (none))) = some r := h
 clear h
 by_cases c2 : a0 < 0
 ·rw [if_pos c2] at H
  have c2b0 : decide (a0 < 0) = true := decide_eq_true c2
  clear c2
  by_cases c3 : a0 = (-9223372036854775808)
  ·rw [if_pos c3] at H
   have c3b0 : (a0 == (-9223372036854775808)) = true := beq_iff_eq.mpr c3
   have c3b1 : (a0 != (-9223372036854775808)) = false := bne_eq_false_iff_eq.mpr c3
   clear c3
   obtain rfl := Option.some.inj H
   go_enter Tryd.func22, Tryd.ntmps22
   go_wp2
   go_ret
   exact ⟨by first | rfl | (simp; done) | (simp [*]; done), by repeat (first | exact Drawn0.refl _ | apply Drawn0.step)⟩
  rw [if_neg c3] at H
  have c3b0 : (a0 == (-9223372036854775808)) = false := beq_eq_false_iff_ne.mpr c3
  have c3b1 : (a0 != (-9223372036854775808)) = true := bne_iff_ne.mpr c3
  replace H := Y17.mp H
  obtain ⟨t202, A40, H⟩ := H
  try dsimp only at H
  have A4 := Y0 A40
  clear A40
  by_cases c5 : 1 + t202.size ≤ 9223372036854775807
  rotate_left
  ·rw [if_neg c5] at H
   exact absurd H (by simp)
  rw [if_pos c5] at H
  have c5b0 := eq_true c5
  have c5b1 : decide (1 + t202.size ≤ 9223372036854775807) = true := decide_eq_true c5
  try have c5b2 : (9223372036854775807 < 1 + t202.size) = False := eq_false (Nat.not_lt.2 c5)
  obtain rfl := Option.some.inj H
  go_enter Tryd.func22, Tryd.ntmps22
  go_wp2_with (first | ((with_reducible refine gate_callee (f := 22) rfl ?_); refine goesL_ (some 10) rfl rfl Tryd.func22 (by kernel_rfl) rfl #[.int .i64 (wrap64 (-a0))] rfl (by (try simp only [List.map_toArray, List.map_cons, List.map_nil]); first | done | rfl | (simp only [List.length_drop, List.length_take]; rfl)) ?_; (with_reducible refine (ih k (by omega) (wrap64 (-a0)) t202 _ A4.out).mono ?_); rintro e w' ⟨rfl, ⟨nd, rfl⟩⟩; refine ⟨_, rfl, ?_⟩))
  go_ret
  exact ⟨by first | rfl | (simp; done) | (simp [*]; done), by repeat (first | exact Drawn0.refl _ | apply Drawn0.step)⟩
 rw [if_neg c2] at H
 have c2b0 : decide (a0 < 0) = false := decide_eq_false c2
 clear c2
 obtain ⟨ji6, hji6⟩ : ∃ j_ : Int, (Int.tmod a0 10) = j_ := ⟨_, rfl⟩
 replace H : (if 0 ≤ (ji6) then (if (ji6) ≤ (wrap64 ((ji6) + 1)) then (if (wrap64 ((ji6) + 1)) ≤ 10 then (if a0 < 10 then (some ((⟨#[48, 49, 50, 51, 52, 53, 54, 55, 56, 57]⟩ : ByteArray).extract ((ji6) : Int).toNat ((wrap64 ((ji6) + 1)) : Int).toNat)) else ((truffleref06_Digits.f k (wrap64 (Int.tdiv a0 10))).bind fun t203 => (if t203.size + ((⟨#[48, 49, 50, 51, 52, 53, 54, 55, 56, 57]⟩ : ByteArray).extract ((ji6) : Int).toNat ((wrap64 ((ji6) + 1)) : Int).toNat).size ≤ 9223372036854775807 then (some (t203 ++ ((⟨#[48, 49, 50, 51, 52, 53, 54, 55, 56, 57]⟩ : ByteArray).extract ((ji6) : Int).toNat ((wrap64 ((ji6) + 1)) : Int).toNat))) else (none)))) else (none)) else (none)) else (none)) = some r := by first | (rw [hji6] at H; exact H) | (simp only [hji6] at H ⊢; exact H)
 by_cases c7 : 0 ≤ (ji6)
 rotate_left
 ·rw [if_neg c7] at H
  exact absurd H (by simp)
 rw [if_pos c7] at H
 have c7b0 := eq_true c7
 have c7b1 : decide (0 ≤ (ji6)) = true := decide_eq_true c7
 clear c7
 by_cases c8 : (ji6) ≤ (wrap64 ((ji6) + 1))
 rotate_left
 ·rw [if_neg c8] at H
  exact absurd H (by simp)
 rw [if_pos c8] at H
 have c8b0 := eq_true c8
 have c8b1 : decide ((ji6) ≤ (wrap64 ((ji6) + 1))) = true := decide_eq_true c8
 by_cases c9 : (wrap64 ((ji6) + 1)) ≤ 10
 rotate_left
 ·rw [if_neg c9] at H
  exact absurd H (by simp)
 rw [if_pos c9] at H
 have c9b0 := eq_true c9
 have c9b1 : decide ((wrap64 ((ji6) + 1)) ≤ 10) = true := decide_eq_true c9
 by_cases c10 : a0 < 10
 ·rw [if_pos c10] at H
  have c10b0 : decide (a0 < 10) = true := decide_eq_true c10
  clear c10
  obtain rfl := Option.some.inj H
  go_enter Tryd.func22, Tryd.ntmps22
  go_wp2
  go_ret
  exact ⟨by first | rfl | (simp; done) | (simp only [← hji6] <;> (first | rfl | simp)) | (simp [*]; done), by repeat (first | exact Drawn0.refl _ | apply Drawn0.step)⟩
 rw [if_neg c10] at H
 have c10b0 : decide (a0 < 10) = false := decide_eq_false c10
 clear c10
 replace H := Y17.mp H
 obtain ⟨t203, A110, H⟩ := H
 try dsimp only at H
 have A11 := Y0 A110
 clear A110
 by_cases c12 : t203.size + ((⟨#[48, 49, 50, 51, 52, 53, 54, 55, 56, 57]⟩ : ByteArray).extract ((ji6) : Int).toNat ((wrap64 ((ji6) + 1)) : Int).toNat).size ≤ 9223372036854775807
 rotate_left
 ·rw [if_neg c12] at H
  exact absurd H (by simp)
 rw [if_pos c12] at H
 have c12b0 := eq_true c12
 have c12b1 : decide (t203.size + ((⟨#[48, 49, 50, 51, 52, 53, 54, 55, 56, 57]⟩ : ByteArray).extract ((ji6) : Int).toNat ((wrap64 ((ji6) + 1)) : Int).toNat).size ≤ 9223372036854775807) = true := decide_eq_true c12
 try have c12b2 : (9223372036854775807 < t203.size + ((⟨#[48, 49, 50, 51, 52, 53, 54, 55, 56, 57]⟩ : ByteArray).extract ((ji6) : Int).toNat ((wrap64 ((ji6) + 1)) : Int).toNat).size) = False := eq_false (Nat.not_lt.2 c12)
 obtain rfl := Option.some.inj H
 go_enter Tryd.func22, Tryd.ntmps22
 go_wp2_with (first | ((with_reducible refine gate_callee (f := 22) rfl ?_); refine goesL_ (some 23) rfl rfl Tryd.func22 (by kernel_rfl) rfl #[.int .i64 (wrap64 (Int.tdiv a0 10))] rfl (by (try simp only [List.map_toArray, List.map_cons, List.map_nil]); first | done | rfl | (simp only [List.length_drop, List.length_take]; rfl)) ?_; (with_reducible refine (ih k (by omega) (wrap64 (Int.tdiv a0 10)) t203 _ A11.out).mono ?_); rintro e w' ⟨rfl, ⟨nd, rfl⟩⟩; refine ⟨_, rfl, ?_⟩))
 go_ret
 exact ⟨by first | rfl | (simp; done) | (simp only [← hji6] <;> (first | rfl | simp)) | (simp [*]; done), by repeat (first | exact Drawn0.refl _ | apply Drawn0.step)⟩
mutual
def truffleref06_number.j0 : Nat → ByteArray → Int → Int → Bool → Option (Int × Bool)
 | 0, _, _, _, _ => none
 | k + 1, x0, x4, x5, x15 => if x15 = true then (truffleref06_number.j1 k x0 x4 1) else (truffleref06_number.j1 k x0 x4 x5)
def truffleref06_number.j1 : Nat → ByteArray → Int → Int → Option (Int × Bool)
 | 0, _, _, _ => none
 | k + 1, x0, x4, x5 => if (x0.size : Int) = x5 then (truffleref06_number.j2 k x0 x4 x5 true) else (truffleref06_number.j2 k x0 x4 x5 (decide ((wrap64 ((x0.size : Int) - x5)) > 19)))
def truffleref06_number.j2 : Nat → ByteArray → Int → Int → Bool → Option (Int × Bool)
 | 0, _, _, _, _ => none
 | k + 1, x0, x4, x5, x26 => if x26 = true then (some (0, false)) else (truffleref06_number.l0 k x0 x4 x5 x5)
def truffleref06_number.l0 : Nat → ByteArray → Int → Int → Int → Option (Int × Bool)
 | 0, _, _, _, _ => none
 | k + 1, x0, x4, x5, x6 => if x6 < (x0.size : Int) then (if 0 ≤ x6 then (truffleref06_number.l0 k x0 (IntKind.u64.wrap ((IntKind.u64.wrap (10 * x4)) + (((bt x0 x6) - 48) % 256))) x5 (wrap64 (x6 + 1))) else (none)) else (if x4 > 9223372036854775808 then (truffleref06_number.j4 k x0 x4 x5 true) else (if x4 = 9223372036854775808 then (truffleref06_number.j4 k x0 x4 x5 (x5 == 0)) else (truffleref06_number.j4 k x0 x4 x5 false)))
def truffleref06_number.j4 : Nat → ByteArray → Int → Int → Bool → Option (Int × Bool)
 | 0, _, _, _, _ => none
 | k + 1, x0, x4, x5, x51 => if x51 = true then (some (0, false)) else (if x5 = 1 then ((truffleref06_Digits.f k (wrap64 (-(wrap64 (x4))))).bind fun t204 => (some (wrap64 (-(wrap64 (x4))), (t204.toList == x0.toList)))) else ((truffleref06_Digits.f k (wrap64 (x4))).bind fun t205 => (some (wrap64 (x4), (t205.toList == x0.toList)))))
end
def truffleref06_number.f (k : Nat) (a0 : ByteArray) : Option (Int × Bool) := if (a0.size : Int) > 0 then (if 0 < (a0.size : Int) then (truffleref06_number.j0 k a0 0 0 ((bt a0 0) == 45)) else (none)) else (truffleref06_number.j0 k a0 0 0 false)
set_option maxHeartbeats 8000000 in
set_option maxRecDepth 100000 in
theorem truffleref06_number.calls (k : Nat) (a0 : ByteArray) (r1 : Int) (r2 : Bool) (w : World) (h : truffleref06_number.f k a0 = some (r1, r2)) :
  Calls Tryd.prog 65 #[.string a0] w fun e w' => e = .returned (.tuple #[.int .i64 r1, .bool r2]) ∧ Drawn0 w w' := by
 have H : (if (a0.size : Int) > 0 then (if 0 < (a0.size : Int) then (truffleref06_number.j0 k a0 0 0 ((bt a0 0) == 45)) else (none)) else (truffleref06_number.j0 k a0 0 0 false)) = some (r1, r2) := h
 clear h
 have HC2 := Y0 H
 clear H
 go_enter Tryd.func65, Tryd.ntmps65
 go_upto_region 3 with (fail)
 go_cut [15] (fun v15 wc => ∃ (kq : Nat) (x15_1 : Bool), v15 = .bool x15_1 ∧ Aside0 (truffleref06_number.j0 kq a0 0 0 x15_1 = some (r1, r2)) ∧ Aside0 (kq ≤ k) ∧ Drawn0 w wc)
 case first =>
  have H := HC2.out
  clear HC2
  by_cases c3 : (a0.size : Int) > 0
  rotate_left
  ·rw [if_neg c3] at H
   have c3b0 : decide (0 < (a0.size : Int)) = false := decide_eq_false c3
   have c3b1 : decide (0 < a0.size) = false := decide_eq_false (by omega)
   clear c3
   (first | rw [c3b0] | (simp only [i64_w]; rw [c3b0]) | skip)
   have H' := Y0 H
   clear H
   go_wp2
   go_meet
   case rel => exact ⟨_, (false), (by first | rfl | (simp; done) | (simp [*]; done)), H', ⟨by first | omega | exact Nat.le_refl _⟩, by repeat (first | exact Drawn0.refl _ | apply Drawn0.step)⟩
  rw [if_pos c3] at H
  have c3b0 : decide (0 < (a0.size : Int)) = true := decide_eq_true c3
  have c3b1 : decide (0 < a0.size) = true := decide_eq_true (by omega)
  clear c3
  (first | rw [c3b0] | (simp only [i64_w]; rw [c3b0]) | skip)
  by_cases c4 : 0 < (a0.size : Int)
  rotate_left
  ·rw [if_neg c4] at H
   exact absurd H (by simp)
  rw [if_pos c4] at H
  have c4b0 : decide (0 < (a0.size : Int)) = true := decide_eq_true c4
  have c4b1 : decide (0 < a0.size) = true := decide_eq_true (by omega)
  clear c4
  have H' := Y0 H
  clear H
  have p5 : 0 ≤ (0 : Int) := (by omega)
  have q5 : 0 < a0.size := (by have : (0 : Int) < (a0.size : Int) := of_decide_eq_true (by first | (with_reducible assumption) | assumption); omega)
  have hx5 : ∀ h : 0 < a0.size, ((a0[0]'h).toNat : Int) = bt a0 0 := bt_at a0 0
  clear p5
  have qi5 : (0 < (a0.size : Int)) = True := eq_true (of_decide_eq_true (by first | (with_reducible assumption) | assumption))
  replace q5 := eq_true q5
  go_wp2
  go_meet
  case rel => exact ⟨_, (((bt a0 0) == 45)), (by first | rfl | (simp; done) | (simp [*]; done)), H', ⟨by first | omega | exact Nat.le_refl _⟩, by repeat (first | exact Drawn0.refl _ | apply Drawn0.step)⟩
 case rest =>
  clear HC2
  obtain ⟨kq, x15_1, rfl, HA, HJ1, ⟨mc1, rfl⟩⟩ := hcut
  cases kq with
  | zero => exact absurd HA.out (by simp [truffleref06_number.j0])
  | succ kj1 =>
   have H := HA.out
   clear HA
   simp only [truffleref06_number.j0] at H
   have HC6 := Y0 H
   clear H
   go_upto_if 15 with (fail)
   go_cut [5] (fun v5 wc => ∃ (kq : Nat) (x5_5 : Int), v5 = .int .i64 x5_5 ∧ Aside0 (truffleref06_number.j1 kq a0 0 x5_5 = some (r1, r2)) ∧ Aside0 (kq ≤ kj1) ∧ Drawn0 w wc)
   case first =>
    have H := HC6.out
    clear HC6
    by_cases c7 : x15_1 = true
    ·subst c7
     have H1 : (truffleref06_number.j1 kj1 a0 0 1) = some (r1, r2) := by first | (rw [if_pos rfl] at H; exact H) | rfl
     clear H
     have H := H1
     clear H1
     have H' := Y0 H
     clear H
     go_wp2
     go_meet
     case rel => exact ⟨_, (1), (by first | rfl | (simp; done) | (simp [*]; done)), H', ⟨by have := HJ1.out; first | omega | exact Nat.le_refl _⟩, by repeat (first | exact Drawn0.refl _ | apply Drawn0.step)⟩
    replace c7 := Bool.eq_false_iff.mpr c7
    subst c7
    have H1 : (truffleref06_number.j1 kj1 a0 0 0) = some (r1, r2) := by first | (rw [if_neg (show ¬ (false = true) by decide)] at H; exact H) | rfl
    clear H
    have H := H1
    clear H1
    have H' := Y0 H
    clear H
    go_wp2
    go_meet
    case rel => exact ⟨_, (0), (by first | rfl | (simp; done) | (simp [*]; done)), H', ⟨by have := HJ1.out; first | omega | exact Nat.le_refl _⟩, by repeat (first | exact Drawn0.refl _ | apply Drawn0.step)⟩
   case rest =>
    clear HC6
    obtain ⟨kq, x5_5, rfl, HA, HJ5, ⟨mc5, rfl⟩⟩ := hcut
    cases kq with
    | zero => exact absurd HA.out (by simp [truffleref06_number.j1])
    | succ kj5 =>
     have H := HA.out
     clear HA
     simp only [truffleref06_number.j1] at H
     have HC8 := Y0 H
     clear H
     go_upto_region 5 with (fail)
     go_cut [26] (fun v26 wc => ∃ (kq : Nat) (x26_7 : Bool), v26 = .bool x26_7 ∧ Aside0 (truffleref06_number.j2 kq a0 0 x5_5 x26_7 = some (r1, r2)) ∧ Aside0 (kq ≤ kj5) ∧ Drawn0 w wc)
     case first =>
      have H := HC8.out
      clear HC8
      by_cases c9 : (a0.size : Int) = x5_5
      ·rw [if_pos c9] at H
       have c9b0 : ((a0.size : Int) == x5_5) = true := beq_iff_eq.mpr c9
       have c9b1 : ((a0.size : Int) != x5_5) = false := bne_eq_false_iff_eq.mpr c9
       clear c9
       (first | rw [c9b0] | (simp only [i64_w]; rw [c9b0]) | skip)
       have H' := Y0 H
       clear H
       go_wp2
       go_meet
       case rel => exact ⟨_, (true), (by first | rfl | (simp; done) | (simp [*]; done)), H', ⟨by have := HJ1.out; have := HJ5.out; first | omega | exact Nat.le_refl _⟩, by repeat (first | exact Drawn0.refl _ | apply Drawn0.step)⟩
      rw [if_neg c9] at H
      have c9b0 : ((a0.size : Int) == x5_5) = false := beq_eq_false_iff_ne.mpr c9
      have c9b1 : ((a0.size : Int) != x5_5) = true := bne_iff_ne.mpr c9
      (first | rw [c9b0] | (simp only [i64_w]; rw [c9b0]) | skip)
      have H' := Y0 H
      clear H
      go_wp2
      go_meet
      case rel => exact ⟨_, (decide ((wrap64 ((a0.size : Int) - x5_5)) > 19)), (by first | rfl | (simp; done) | (simp [*]; done)), H', ⟨by have := HJ1.out; have := HJ5.out; first | omega | exact Nat.le_refl _⟩, by repeat (first | exact Drawn0.refl _ | apply Drawn0.step)⟩
     case rest =>
      clear HC8
      obtain ⟨kq, x26_7, rfl, HA, HJ7, ⟨mc7, rfl⟩⟩ := hcut
      cases kq with
      | zero => exact absurd HA.out (by simp [truffleref06_number.j2])
      | succ kj7 =>
       have H := HA.out
       clear HA
       simp only [truffleref06_number.j2] at H
       by_cases c10 : x26_7 = true
       ·subst c10
        have H1 : (some (0, false)) = some (r1, r2) := by first | (rw [if_pos rfl] at H; exact H) | rfl
        clear H
        have H := H1
        clear H1
        simp only [Option.some.injEq, Prod.mk.injEq] at H
        obtain ⟨rfl, rfl⟩ := H
        go_wp2
        go_ret2
        exact ⟨by first | rfl | (simp; done) | (simp [*]; done), by repeat (first | exact Drawn0.refl _ | apply Drawn0.step)⟩
       replace c10 := Bool.eq_false_iff.mpr c10
       subst c10
       have H1 : (truffleref06_number.l0 kj7 a0 0 x5_5 x5_5) = some (r1, r2) := by first | (rw [if_neg (show ¬ (false = true) by decide)] at H; exact H) | rfl
       clear H
       have H := H1
       clear H1
       have H' := Y0 H
       clear H
       go_wp2
       go_loopg [4, 6] kj7 (fun kq v4 v6 w' => ∃ (x4_4 : Int) (x6_4 : Int), v4 = .int .u64 x4_4 ∧ v6 = .int .i64 x6_4 ∧ Aside0 (truffleref06_number.l0 kq a0 x4_4 x5_5 x6_4 = some (r1, r2)) ∧ Aside0 (kq ≤ kj7) ∧ Drawn0 w w')
       case atStart => exact ⟨(0), (x5_5), (by first | rfl | (simp; done) | (simp [*]; done)), (by first | rfl | (simp; done) | (simp [*]; done)), H', ⟨Nat.le_refl _⟩, by repeat (first | exact Drawn0.refl _ | apply Drawn0.step)⟩
       case round =>
        clear H'
        obtain ⟨x4_4, x6_4, rfl, rfl, HA, HK4, ⟨m4, rfl⟩⟩ := hrel
        cases gk with
        | zero => exact absurd HA.out (by simp [truffleref06_number.l0])
        | succ k4 =>
         have H := HA.out
         clear HA
         simp only [truffleref06_number.l0] at H
         by_cases c11 : x6_4 < (a0.size : Int)
         ·rw [if_pos c11] at H
          have c11b0 : decide (x6_4 < (a0.size : Int)) = true := decide_eq_true c11
          clear c11
          by_cases c12 : 0 ≤ x6_4
          rotate_left
          ·rw [if_neg c12] at H
           exact absurd H (by simp)
          rw [if_pos c12] at H
          have c12b0 : decide (0 ≤ x6_4) = true := decide_eq_true c12
          clear c12
          have H' := Y0 H
          clear H
          have p13 : 0 ≤ (x6_4 : Int) := of_decide_eq_true (by first | (with_reducible assumption) | assumption)
          have q13 : x6_4 < (a0.size : Int) := of_decide_eq_true (by first | (with_reducible assumption) | assumption)
          have hx13 := bt_at a0 x6_4
          replace p13 := eq_true p13
          replace q13 := eq_true q13
          go_wp2
          go_roundg k4
          case measure => have := HJ1.out; have := HJ5.out; have := HJ7.out; have := HK4.out; omega
          case rel => exact ⟨(IntKind.u64.wrap ((IntKind.u64.wrap (10 * x4_4)) + (((bt a0 x6_4) - 48) % 256))), (wrap64 (x6_4 + 1)), (by first | rfl | (simp; done) | (simp [*]; done)), (by first | rfl | (simp; done) | (simp [*]; done)), H', ⟨by have := HJ1.out; have := HJ5.out; have := HJ7.out; have := HK4.out; omega⟩, by repeat (first | exact Drawn0.refl _ | apply Drawn0.step)⟩
         rw [if_neg c11] at H
         have c11b0 : decide (x6_4 < (a0.size : Int)) = false := decide_eq_false c11
         clear c11
         have HC14 := Y0 H
         clear H
         go_upto_region 11 with (fail)
         go_cut [51] (fun v51 wc => ∃ (kq : Nat) (x51_13 : Bool), v51 = .bool x51_13 ∧ Aside0 (truffleref06_number.j4 kq a0 x4_4 x5_5 x51_13 = some (r1, r2)) ∧ Aside0 (kq ≤ k4) ∧ Drawn0 w wc)
         case first =>
          have H := HC14.out
          clear HC14
          by_cases c15 : x4_4 > 9223372036854775808
          ·rw [if_pos c15] at H
           have c15b0 : decide (9223372036854775808 < x4_4) = true := decide_eq_true c15
           clear c15
           (first | rw [c15b0] | (simp only [i64_w]; rw [c15b0]) | skip)
           have H' := Y0 H
           clear H
           go_wp2
           go_meet
           case rel => exact ⟨_, (true), (by first | rfl | (simp; done) | (simp [*]; done)), H', ⟨by have := HJ1.out; have := HJ5.out; have := HJ7.out; have := HK4.out; first | omega | exact Nat.le_refl _⟩, by repeat (first | exact Drawn0.refl _ | apply Drawn0.step)⟩
          rw [if_neg c15] at H
          have c15b0 : decide (9223372036854775808 < x4_4) = false := decide_eq_false c15
          clear c15
          (first | rw [c15b0] | (simp only [i64_w]; rw [c15b0]) | skip)
          by_cases c16 : x4_4 = 9223372036854775808
          rotate_left
          ·rw [if_neg c16] at H
           have c16b0 : (x4_4 == 9223372036854775808) = false := beq_eq_false_iff_ne.mpr c16
           have c16b1 : (x4_4 != 9223372036854775808) = true := bne_iff_ne.mpr c16
           have H' := Y0 H
           clear H
           go_wp2
           go_meet
           case rel => exact ⟨_, (false), (by first | rfl | (simp; done) | (simp [*]; done)), H', ⟨by have := HJ1.out; have := HJ5.out; have := HJ7.out; have := HK4.out; first | omega | exact Nat.le_refl _⟩, by repeat (first | exact Drawn0.refl _ | apply Drawn0.step)⟩
          rw [if_pos c16] at H
          have c16b0 : (x4_4 == 9223372036854775808) = true := beq_iff_eq.mpr c16
          have c16b1 : (x4_4 != 9223372036854775808) = false := bne_eq_false_iff_eq.mpr c16
          clear c16
          have H' := Y0 H
          clear H
          go_wp2
          go_meet
          case rel => exact ⟨_, ((x5_5 == 0)), (by first | rfl | (simp; done) | (simp [*]; done)), H', ⟨by have := HJ1.out; have := HJ5.out; have := HJ7.out; have := HK4.out; first | omega | exact Nat.le_refl _⟩, by repeat (first | exact Drawn0.refl _ | apply Drawn0.step)⟩
         case rest =>
          clear HC14
          obtain ⟨kq, x51_13, rfl, HA, HJ13, ⟨mc13, rfl⟩⟩ := hcut
          cases kq with
          | zero => exact absurd HA.out (by simp [truffleref06_number.j4])
          | succ kj13 =>
           have H := HA.out
           clear HA
           simp only [truffleref06_number.j4] at H
           by_cases c17 : x51_13 = true
           ·subst c17
            have H1 : (some (0, false)) = some (r1, r2) := by first | (rw [if_pos rfl] at H; exact H) | rfl
            clear H
            have H := H1
            clear H1
            simp only [Option.some.injEq, Prod.mk.injEq] at H
            obtain ⟨rfl, rfl⟩ := H
            go_wp2
            go_ret2
            exact ⟨by first | rfl | (simp; done) | (simp [*]; done), by repeat (first | exact Drawn0.refl _ | apply Drawn0.step)⟩
           replace c17 := Bool.eq_false_iff.mpr c17
           subst c17
           have H1 : (if x5_5 = 1 then ((truffleref06_Digits.f kj13 (wrap64 (-(wrap64 (x4_4))))).bind fun t204 => (some (wrap64 (-(wrap64 (x4_4))), (t204.toList == a0.toList)))) else ((truffleref06_Digits.f kj13 (wrap64 (x4_4))).bind fun t205 => (some (wrap64 (x4_4), (t205.toList == a0.toList))))) = some (r1, r2) := by first | (rw [if_neg (show ¬ (false = true) by decide)] at H; exact H) | rfl
           clear H
           have H := H1
           clear H1
           by_cases c18 : x5_5 = 1
           rotate_left
           ·rw [if_neg c18] at H
            have c18b0 : (x5_5 == 1) = false := beq_eq_false_iff_ne.mpr c18
            have c18b1 : (x5_5 != 1) = true := bne_iff_ne.mpr c18
            replace H := Y17.mp H
            obtain ⟨t205, A200, H⟩ := H
            replace H : (some (wrap64 (x4_4), (t205.toList == a0.toList))) = some (r1, r2) := H
            have A20 := Y0 A200
            clear A200
            simp only [Option.some.injEq, Prod.mk.injEq] at H
            obtain ⟨rfl, rfl⟩ := H
            go_wp2_with (first | ((with_reducible refine gate_callee (f := 22) rfl ?_); refine goesL_ (some 60) rfl rfl Tryd.func22 (by kernel_rfl) rfl #[.int .i64 (wrap64 (x4_4))] rfl (by (try simp only [List.map_toArray, List.map_cons, List.map_nil]); first | done | rfl | (simp only [List.length_drop, List.length_take]; rfl)) ?_; (with_reducible refine (truffleref06_Digits.calls kj13 (wrap64 (x4_4)) t205 _ A20.out).mono ?_); rintro e w' ⟨rfl, ⟨nd, rfl⟩⟩; refine ⟨_, rfl, ?_⟩))
            go_ret2
            exact ⟨by first | rfl | (simp; done) | (simp [*]; done), by repeat (first | exact Drawn0.refl _ | apply Drawn0.step)⟩
           rw [if_pos c18] at H
           have c18b0 : (x5_5 == 1) = true := beq_iff_eq.mpr c18
           have c18b1 : (x5_5 != 1) = false := bne_eq_false_iff_eq.mpr c18
           clear c18
           replace H := Y17.mp H
           obtain ⟨t204, A190, H⟩ := H
           replace H : (some (wrap64 (-(wrap64 (x4_4))), (t204.toList == a0.toList))) = some (r1, r2) := H
           have A19 := Y0 A190
           clear A190
           simp only [Option.some.injEq, Prod.mk.injEq] at H
           obtain ⟨rfl, rfl⟩ := H
           go_wp2_with (first | ((with_reducible refine gate_callee (f := 22) rfl ?_); refine goesL_ (some 60) rfl rfl Tryd.func22 (by kernel_rfl) rfl #[.int .i64 (wrap64 (-(wrap64 (x4_4))))] rfl (by (try simp only [List.map_toArray, List.map_cons, List.map_nil]); first | done | rfl | (simp only [List.length_drop, List.length_take]; rfl)) ?_; (with_reducible refine (truffleref06_Digits.calls kj13 (wrap64 (-(wrap64 (x4_4)))) t204 _ A19.out).mono ?_); rintro e w' ⟨rfl, ⟨nd, rfl⟩⟩; refine ⟨_, rfl, ?_⟩))
           go_ret2
           exact ⟨by first | rfl | (simp; done) | (simp [*]; done), by repeat (first | exact Drawn0.refl _ | apply Drawn0.step)⟩
def truffleref06_hex.f (a0 : Int) : Option (Int) := (truffleref06_digit.f a0).bind fun t206 => (if t206 = true then (some ((a0 - 48) % 256)) else (if a0 ≥ 97 then (if a0 ≤ 102 then (some (((a0 - 97) % 256) + 10)) else (some (-1))) else (some (-1))))
set_option maxHeartbeats 8000000 in
set_option maxRecDepth 100000 in
theorem truffleref06_hex.calls (a0 : Int) (r : Int) (w : World) (h : truffleref06_hex.f a0 = some r) :
  Calls Tryd.prog 79 #[.int .u8 a0] w fun e w' => e = .returned (.int .i64 r) ∧ Drawn0 w w' := by
 have H : ((truffleref06_digit.f a0).bind fun t206 => (if t206 = true then (some ((a0 - 48) % 256)) else (if a0 ≥ 97 then (if a0 ≤ 102 then (some (((a0 - 97) % 256) + 10)) else (some (-1))) else (some (-1))))) = some r := h
 clear h
 replace H := Y17.mp H
 obtain ⟨t206, A20, H⟩ := H
 try dsimp only at H
 have A2 := Y0 A20
 clear A20
 by_cases c3 : t206 = true
 ·subst c3
  rw [if_pos rfl] at H
  obtain rfl := Option.some.inj H
  go_enter Tryd.func79, Tryd.ntmps79
  go_wp2_with (first | ((with_reducible refine gate_callee (f := 64) rfl ?_); refine goesL_ (some 4) rfl rfl Tryd.func64 (by kernel_rfl) rfl #[.int .u8 a0] rfl (by (try simp only [List.map_toArray, List.map_cons, List.map_nil]); first | done | rfl | (simp only [List.length_drop, List.length_take]; rfl)) ?_; (with_reducible refine (truffleref06_digit.calls a0 true _ A2.out).mono ?_); rintro e w' ⟨rfl, ⟨nd, rfl⟩⟩; refine ⟨_, rfl, ?_⟩))
  go_ret
  exact ⟨by first | rfl | (simp; done) | (simp [*]; done), by repeat (first | exact Drawn0.refl _ | apply Drawn0.step)⟩
 replace c3 := Bool.eq_false_iff.mpr c3
 subst c3
 rw [if_neg (show ¬ (false = true) by decide)] at H
 by_cases c4 : a0 ≥ 97
 rotate_left
 ·rw [if_neg c4] at H
  have c4b0 : decide (97 ≤ a0) = false := decide_eq_false c4
  clear c4
  obtain rfl := Option.some.inj H
  go_enter Tryd.func79, Tryd.ntmps79
  go_wp2_with (first | ((with_reducible refine gate_callee (f := 64) rfl ?_); refine goesL_ (some 4) rfl rfl Tryd.func64 (by kernel_rfl) rfl #[.int .u8 a0] rfl (by (try simp only [List.map_toArray, List.map_cons, List.map_nil]); first | done | rfl | (simp only [List.length_drop, List.length_take]; rfl)) ?_; (with_reducible refine (truffleref06_digit.calls a0 false _ A2.out).mono ?_); rintro e w' ⟨rfl, ⟨nd, rfl⟩⟩; refine ⟨_, rfl, ?_⟩))
  go_ret
  exact ⟨by first | rfl | (simp; done) | (simp [*]; done), by repeat (first | exact Drawn0.refl _ | apply Drawn0.step)⟩
 rw [if_pos c4] at H
 have c4b0 : decide (97 ≤ a0) = true := decide_eq_true c4
 clear c4
 by_cases c5 : a0 ≤ 102
 ·rw [if_pos c5] at H
  have c5b0 : decide (a0 ≤ 102) = true := decide_eq_true c5
  clear c5
  obtain rfl := Option.some.inj H
  go_enter Tryd.func79, Tryd.ntmps79
  go_wp2_with (first | ((with_reducible refine gate_callee (f := 64) rfl ?_); refine goesL_ (some 4) rfl rfl Tryd.func64 (by kernel_rfl) rfl #[.int .u8 a0] rfl (by (try simp only [List.map_toArray, List.map_cons, List.map_nil]); first | done | rfl | (simp only [List.length_drop, List.length_take]; rfl)) ?_; (with_reducible refine (truffleref06_digit.calls a0 false _ A2.out).mono ?_); rintro e w' ⟨rfl, ⟨nd, rfl⟩⟩; refine ⟨_, rfl, ?_⟩))
  go_ret
  exact ⟨by first | rfl | (simp; done) | (simp [*]; done), by repeat (first | exact Drawn0.refl _ | apply Drawn0.step)⟩
 rw [if_neg c5] at H
 have c5b0 : decide (a0 ≤ 102) = false := decide_eq_false c5
 clear c5
 obtain rfl := Option.some.inj H
 go_enter Tryd.func79, Tryd.ntmps79
 go_wp2_with (first | ((with_reducible refine gate_callee (f := 64) rfl ?_); refine goesL_ (some 4) rfl rfl Tryd.func64 (by kernel_rfl) rfl #[.int .u8 a0] rfl (by (try simp only [List.map_toArray, List.map_cons, List.map_nil]); first | done | rfl | (simp only [List.length_drop, List.length_take]; rfl)) ?_; (with_reducible refine (truffleref06_digit.calls a0 false _ A2.out).mono ?_); rintro e w' ⟨rfl, ⟨nd, rfl⟩⟩; refine ⟨_, rfl, ?_⟩))
 go_ret
 exact ⟨by first | rfl | (simp; done) | (simp [*]; done), by repeat (first | exact Drawn0.refl _ | apply Drawn0.step)⟩
mutual
def truffleref06_text.l0 : Nat → ByteArray → List Int → Int → Option (ByteArray × Int)
 | 0, _, _, _ => none
 | k + 1, x0, x6, x7 => if x7 < (x0.size : Int) then (if 0 ≤ x7 then (truffleref06_text.j1 k x0 x6 x7 ((bt x0 x7) != 34)) else (none)) else (truffleref06_text.j1 k x0 x6 x7 false)
def truffleref06_text.j1 : Nat → ByteArray → List Int → Int → Bool → Option (ByteArray × Int)
 | 0, _, _, _, _ => none
 | k + 1, x0, x6, x7, x21 => if x21 = true then (if 0 ≤ x7 then (if x7 < (x0.size : Int) then (if (bt x0 x7) < 32 then (truffleref06_text.j2 k x0 x6 x7 (bt x0 x7) true) else (truffleref06_text.j2 k x0 x6 x7 (bt x0 x7) ((bt x0 x7) == 127))) else (none)) else (none)) else (if x7 ≥ (x0.size : Int) then (some ((⟨#[]⟩ : ByteArray), (-1))) else (some (strOfNums x6, wrap64 (x7 + 1))))
def truffleref06_text.j2 : Nat → ByteArray → List Int → Int → Int → Bool → Option (ByteArray × Int)
 | 0, _, _, _, _, _ => none
 | k + 1, x0, x6, x7, x8, x30 => if x30 = true then (some ((⟨#[]⟩ : ByteArray), (-1))) else (if x8 = 92 then (if (wrap64 (x7 + 1)) ≥ (x0.size : Int) then (some ((⟨#[]⟩ : ByteArray), (-1))) else (if 0 ≤ (wrap64 (x7 + 1)) then (if (wrap64 (x7 + 1)) < (x0.size : Int) then (if (bt x0 (wrap64 (x7 + 1))) = 120 then (if (wrap64 (x7 + 3)) < (x0.size : Int) then (if 0 ≤ (wrap64 (x7 + 2)) then (if (wrap64 (x7 + 2)) < (x0.size : Int) then ((truffleref06_hex.f (bt x0 (wrap64 (x7 + 2)))).bind fun t210 => (if t210 ≥ 0 then (if 0 ≤ (wrap64 (x7 + 3)) then ((truffleref06_hex.f (bt x0 (wrap64 (x7 + 3)))).bind fun t211 => (truffleref06_text.j3 k x0 x6 x7 (bt x0 (wrap64 (x7 + 1))) (decide (t211 ≥ 0)))) else (none)) else (truffleref06_text.j3 k x0 x6 x7 (bt x0 (wrap64 (x7 + 1))) false))) else (none)) else (none)) else (truffleref06_text.j3 k x0 x6 x7 (bt x0 (wrap64 (x7 + 1))) false)) else (truffleref06_text.j3 k x0 x6 x7 (bt x0 (wrap64 (x7 + 1))) false)) else (none)) else (none))) else (if x6.length < 140737488355328 then (truffleref06_text.l0 k x0 (x6 ++ [x8]) (wrap64 (x7 + 1))) else (none)))
def truffleref06_text.j3 : Nat → ByteArray → List Int → Int → Int → Bool → Option (ByteArray × Int)
 | 0, _, _, _, _, _ => none
 | k + 1, x0, x6, x7, x9, x72 => if x72 = true then (if 0 ≤ (wrap64 (x7 + 2)) then (if (wrap64 (x7 + 2)) < (x0.size : Int) then ((truffleref06_hex.f (bt x0 (wrap64 (x7 + 2)))).bind fun t212 => (if 0 ≤ (wrap64 (x7 + 3)) then (if (wrap64 (x7 + 3)) < (x0.size : Int) then ((truffleref06_hex.f (bt x0 (wrap64 (x7 + 3)))).bind fun t213 => (if x6.length < 140737488355328 then (truffleref06_text.l0 k x0 (x6 ++ [(wrap64 ((wrap64 (16 * t212)) + t213)) % 256]) (wrap64 (x7 + 4))) else (none))) else (none)) else (none))) else (none)) else (none)) else (if x9 = 110 then (truffleref06_text.j4 k x0 x6 x7 x9 false) else (if x9 = 92 then (truffleref06_text.j4 k x0 x6 x7 x9 false) else (truffleref06_text.j4 k x0 x6 x7 x9 (x9 != 34))))
def truffleref06_text.j4 : Nat → ByteArray → List Int → Int → Int → Bool → Option (ByteArray × Int)
 | 0, _, _, _, _, _ => none
 | k + 1, x0, x6, x7, x9, x100 => if x100 = true then (some ((⟨#[]⟩ : ByteArray), (-1))) else (if x9 = 110 then (if x6.length < 140737488355328 then (truffleref06_text.l0 k x0 (x6 ++ [10]) (wrap64 (x7 + 2))) else (none)) else (if x6.length < 140737488355328 then (truffleref06_text.l0 k x0 (x6 ++ [x9]) (wrap64 (x7 + 2))) else (none)))
end
def truffleref06_text.f (k : Nat) (a0 : ByteArray) (a1 : Int) : Option (ByteArray × Int) := truffleref06_text.l0 k a0 ([] : List Int) (wrap64 (a1 + 1))
def truffleref06_text.T14 : Bool × List (List Nat × List Nat) := (true, [([], []), ([], []), ([], []), ([2], [2]), ([1, 3], [1, 3]), ([4], [4]), ([5], [5]), ([], []), ([], []), ([8], [8]), ([7, 9], [7, 9]), ([10, 5], [10]), ([6, 11], [6, 11]), ([12], [12]), ([13], [13]), ([0, 14, 11], [0, 14]), ([15, 15, 0, 1, 2, 3, 4, 5, 6, 7, 8, 9, 10, 11, 12, 13, 14, 15], [0, 15])])
def truffleref06_text.B14 : List Nat := [0, 0, 0, 4, 14, 30, 62, 0, 0, 256, 896, 1982, 4094, 8190, 16382, 32767, 65535]
theorem truffleref06_text.tab14 : rtab .any (opsOf Tryd.f66 14) = truffleref06_text.T14 := by kernel_rfl
theorem truffleref06_text.bits14 : waitsOk truffleref06_text.T14.2 truffleref06_text.B14 = true := by kernel_rfl
set_option maxHeartbeats 8000000 in
set_option maxRecDepth 100000 in
theorem truffleref06_text.calls (k : Nat) (a0 : ByteArray) (a1 : Int) (r1 : ByteArray) (r2 : Int) (w : World) (h : truffleref06_text.f k a0 a1 = some (r1, r2)) :
  Calls Tryd.prog 66 #[.string a0, .int .i64 a1] w fun e w' => e = .returned (.tuple #[.string r1, .int .i64 r2]) ∧ Below w.heap.size w w' := by
 have HB := Y0 (Below.refl w.heap.size w)
 have H : (truffleref06_text.l0 k a0 ([] : List Int) (wrap64 (a1 + 1))) = some (r1, r2) := h
 clear h
 have H' := Y0 H
 clear H
 go_enter Tryd.func66, Tryd.ntmps66
 go_wp2
 go_loopg [6, 7] k (fun kq v6 v7 w' => ∃ (x6_1 : List Int) (x7_1 : Int), v7 = .int .i64 x7_1 ∧ Aside0 (truffleref06_text.l0 kq a0 x6_1 x7_1 = some (r1, r2)) ∧ Aside0 (kq ≤ k) ∧ Aside0 (Kd.R (Kd.int .u8) 5 w' w.heap.size (fun _ => True) v6 x6_1) ∧ Aside0 (Below w.heap.size w w'))
 case atStart => exact ⟨(([] : List Int)), (wrap64 (a1 + 1)), (by first | rfl | (simp; done) | (simp [*]; done)), H', ⟨Nat.le_refl _⟩, ⟨by first | exact Kd.R_nil _ _ _ _ _ | exact Kd.N_nil _ _ _ _ _ | exact Kd.V_nil _ _ _ _ _ | exact Kd.Q_nil _ _ _ _ _ | exact Kd.S_nil _ _ _ _ _⟩, ⟨by repeat (with_reducible first | exact HB.out | apply Y3 | apply Y1 | apply Y2)⟩⟩
 case round =>
  clear H'
  obtain ⟨x6_1, x7_1, rfl, HA, HK1, HO_6, HB⟩ := hrel
  cases gk with
  | zero => exact absurd HA.out (by simp [truffleref06_text.l0])
  | succ k1 =>
   have H := HA.out
   clear HA
   simp only [truffleref06_text.l0] at H
   have HC3 := Y0 H
   clear H
   go_upto_region 3 with (fail)
   go_cut [21] (fun v21 wc => ∃ (kq : Nat) (x21_2 : Bool), v21 = .bool x21_2 ∧ Aside0 (truffleref06_text.j1 kq a0 x6_1 x7_1 x21_2 = some (r1, r2)) ∧ Aside0 (kq ≤ k1) ∧ Aside0 (Kd.R (Kd.int .u8) 5 wc w.heap.size (fun _ => True) u6 x6_1) ∧ Aside0 (Below w.heap.size w wc))
   case first =>
    have H := HC3.out
    clear HC3
    by_cases c4 : x7_1 < (a0.size : Int)
    rotate_left
    ·rw [if_neg c4] at H
     have c4b0 : decide (x7_1 < (a0.size : Int)) = false := decide_eq_false c4
     clear c4
     (first | rw [c4b0] | (simp only [i64_w]; rw [c4b0]) | skip)
     have H' := Y0 H
     clear H
     go_wp2
     go_meet
     case rel => exact ⟨_, (false), (by first | rfl | (simp; done) | (simp [*]; done)), H', ⟨by have := HK1.out; first | omega | exact Nat.le_refl _⟩, ⟨by (with_reducible repeat (first | apply Kd.R_alloc | apply Y6 | apply Y7)); exact HO_6.out⟩, ⟨by repeat (with_reducible first | exact HB.out | apply Y3 | apply Y1 | apply Y2)⟩⟩
    rw [if_pos c4] at H
    have c4b0 : decide (x7_1 < (a0.size : Int)) = true := decide_eq_true c4
    clear c4
    (first | rw [c4b0] | (simp only [i64_w]; rw [c4b0]) | skip)
    by_cases c5 : 0 ≤ x7_1
    rotate_left
    ·rw [if_neg c5] at H
     exact absurd H (by simp)
    rw [if_pos c5] at H
    have c5b0 : decide (0 ≤ x7_1) = true := decide_eq_true c5
    clear c5
    have H' := Y0 H
    clear H
    have p6 : 0 ≤ (x7_1 : Int) := of_decide_eq_true (by first | (with_reducible assumption) | assumption)
    have q6 : x7_1 < (a0.size : Int) := of_decide_eq_true (by first | (with_reducible assumption) | assumption)
    have hx6 := bt_at a0 x7_1
    replace p6 := eq_true p6
    replace q6 := eq_true q6
    go_wp2
    go_meet
    case rel => exact ⟨_, (((bt a0 x7_1) != 34)), (by first | rfl | (simp; done) | (simp [*]; done)), H', ⟨by have := HK1.out; first | omega | exact Nat.le_refl _⟩, ⟨by (with_reducible repeat (first | apply Kd.R_alloc | apply Y6 | apply Y7)); exact HO_6.out⟩, ⟨by repeat (with_reducible first | exact HB.out | apply Y3 | apply Y1 | apply Y2)⟩⟩
   case rest =>
    clear HC3
    obtain ⟨kq, x21_2, rfl, HA, HJ2, HO_6, HB⟩ := hcut
    cases kq with
    | zero => exact absurd HA.out (by simp [truffleref06_text.j1])
    | succ kj2 =>
     have H := HA.out
     clear HA
     simp only [truffleref06_text.j1] at H
     by_cases c7 : x21_2 = true
     rotate_left
     ·replace c7 := Bool.eq_false_iff.mpr c7
      subst c7
      have H1 : (if x7_1 ≥ (a0.size : Int) then (some ((⟨#[]⟩ : ByteArray), (-1))) else (some (strOfNums x6_1, wrap64 (x7_1 + 1)))) = some (r1, r2) := by first | (rw [if_neg (show ¬ (false = true) by decide)] at H; exact H) | rfl
      clear H
      have H := H1
      clear H1
      by_cases c58 : x7_1 ≥ (a0.size : Int)
      ·rw [if_pos c58] at H
       have c58b0 : decide ((a0.size : Int) ≤ x7_1) = true := decide_eq_true c58
       clear c58
       simp only [Option.some.injEq, Prod.mk.injEq] at H
       obtain ⟨rfl, rfl⟩ := H
       go_wp2
       go_ret2
       exact ⟨by first | rfl | (simp [] <;> rfl) | (simp [*] <;> rfl), by repeat (with_reducible first | exact HB.out | apply Y3 | apply Y1 | apply Y2)⟩
      rw [if_neg c58] at H
      have c58b0 : decide ((a0.size : Int) ≤ x7_1) = false := decide_eq_false c58
      clear c58
      simp only [Option.some.injEq, Prod.mk.injEq] at H
      obtain ⟨rfl, rfl⟩ := H
      have hcv59 := own_string (P := Tryd.prog) Tryd.underlying63 Tryd.underlying5 Tryd.underlying9 (Kd.own_of_R HO_6.out)
      go_wp2
      go_ret2
      exact ⟨by first | rfl | (simp [] <;> rfl) | (simp [*] <;> rfl), by repeat (with_reducible first | exact HB.out | apply Y3 | apply Y1 | apply Y2)⟩
     subst c7
     have H1 : (if 0 ≤ x7_1 then (if x7_1 < (a0.size : Int) then (if (bt a0 x7_1) < 32 then (truffleref06_text.j2 kj2 a0 x6_1 x7_1 (bt a0 x7_1) true) else (truffleref06_text.j2 kj2 a0 x6_1 x7_1 (bt a0 x7_1) ((bt a0 x7_1) == 127))) else (none)) else (none)) = some (r1, r2) := by first | (rw [if_pos rfl] at H; exact H) | rfl
     clear H
     have H := H1
     clear H1
     by_cases c8 : 0 ≤ x7_1
     rotate_left
     ·rw [if_neg c8] at H
      exact absurd H (by simp)
     rw [if_pos c8] at H
     have c8b0 : decide (0 ≤ x7_1) = true := decide_eq_true c8
     clear c8
     by_cases c9 : x7_1 < (a0.size : Int)
     rotate_left
     ·rw [if_neg c9] at H
      exact absurd H (by simp)
     rw [if_pos c9] at H
     have c9b0 : decide (x7_1 < (a0.size : Int)) = true := decide_eq_true c9
     clear c9
     have HC11 := Y0 H
     clear H
     have p10 : 0 ≤ (x7_1 : Int) := of_decide_eq_true (by first | (with_reducible assumption) | assumption)
     have q10 : x7_1 < (a0.size : Int) := of_decide_eq_true (by first | (with_reducible assumption) | assumption)
     have hx10 := bt_at a0 x7_1
     replace p10 := eq_true p10
     replace q10 := eq_true q10
     go_upto_region 5 with (fail)
     go_cut [30] (fun v30 wc => ∃ (kq : Nat) (x30_10 : Bool), v30 = .bool x30_10 ∧ Aside0 (truffleref06_text.j2 kq a0 x6_1 x7_1 (bt a0 x7_1) x30_10 = some (r1, r2)) ∧ Aside0 (kq ≤ kj2) ∧ Aside0 (Kd.R (Kd.int .u8) 5 wc w.heap.size (fun _ => True) u6 x6_1) ∧ Aside0 (Below w.heap.size w wc))
     case first =>
      have H := HC11.out
      clear HC11
      by_cases c12 : (bt a0 x7_1) < 32
      ·rw [if_pos c12] at H
       have c12b0 : decide ((bt a0 x7_1) < 32) = true := decide_eq_true c12
       clear c12
       (first | rw [c12b0] | (simp only [i64_w]; rw [c12b0]) | skip)
       have H' := Y0 H
       clear H
       go_wp2
       go_meet
       case rel => exact ⟨_, (true), (by first | rfl | (simp; done) | (simp [*]; done)), H', ⟨by have := HK1.out; have := HJ2.out; first | omega | exact Nat.le_refl _⟩, ⟨by (with_reducible repeat (first | apply Kd.R_alloc | apply Y6 | apply Y7)); exact HO_6.out⟩, ⟨by repeat (with_reducible first | exact HB.out | apply Y3 | apply Y1 | apply Y2)⟩⟩
      rw [if_neg c12] at H
      have c12b0 : decide ((bt a0 x7_1) < 32) = false := decide_eq_false c12
      clear c12
      (first | rw [c12b0] | (simp only [i64_w]; rw [c12b0]) | skip)
      have H' := Y0 H
      clear H
      go_wp2
      go_meet
      case rel => exact ⟨_, (((bt a0 x7_1) == 127)), (by first | rfl | (simp; done) | (simp [*]; done)), H', ⟨by have := HK1.out; have := HJ2.out; first | omega | exact Nat.le_refl _⟩, ⟨by (with_reducible repeat (first | apply Kd.R_alloc | apply Y6 | apply Y7)); exact HO_6.out⟩, ⟨by repeat (with_reducible first | exact HB.out | apply Y3 | apply Y1 | apply Y2)⟩⟩
     case rest =>
      clear HC11
      obtain ⟨kq, x30_10, rfl, HA, HJ10, HO_6, HB⟩ := hcut
      cases kq with
      | zero => exact absurd HA.out (by simp [truffleref06_text.j2])
      | succ kj10 =>
       have H := HA.out
       clear HA
       simp only [truffleref06_text.j2] at H
       by_cases c13 : x30_10 = true
       ·subst c13
        have H1 : (some ((⟨#[]⟩ : ByteArray), (-1))) = some (r1, r2) := by first | (rw [if_pos rfl] at H; exact H) | rfl
        clear H
        have H := H1
        clear H1
        simp only [Option.some.injEq, Prod.mk.injEq] at H
        obtain ⟨rfl, rfl⟩ := H
        go_wp2
        go_ret2
        exact ⟨by first | rfl | (simp [] <;> rfl) | (simp [*] <;> rfl), by repeat (with_reducible first | exact HB.out | apply Y3 | apply Y1 | apply Y2)⟩
       replace c13 := Bool.eq_false_iff.mpr c13
       subst c13
       have H1 : (if (bt a0 x7_1) = 92 then (if (wrap64 (x7_1 + 1)) ≥ (a0.size : Int) then (some ((⟨#[]⟩ : ByteArray), (-1))) else (if 0 ≤ (wrap64 (x7_1 + 1)) then (if (wrap64 (x7_1 + 1)) < (a0.size : Int) then (if (bt a0 (wrap64 (x7_1 + 1))) = 120 then (if (wrap64 (x7_1 + 3)) < (a0.size : Int) then (if 0 ≤ (wrap64 (x7_1 + 2)) then (if (wrap64 (x7_1 + 2)) < (a0.size : Int) then ((truffleref06_hex.f (bt a0 (wrap64 (x7_1 + 2)))).bind fun t210 => (if t210 ≥ 0 then (if 0 ≤ (wrap64 (x7_1 + 3)) then ((truffleref06_hex.f (bt a0 (wrap64 (x7_1 + 3)))).bind fun t211 => (truffleref06_text.j3 kj10 a0 x6_1 x7_1 (bt a0 (wrap64 (x7_1 + 1))) (decide (t211 ≥ 0)))) else (none)) else (truffleref06_text.j3 kj10 a0 x6_1 x7_1 (bt a0 (wrap64 (x7_1 + 1))) false))) else (none)) else (none)) else (truffleref06_text.j3 kj10 a0 x6_1 x7_1 (bt a0 (wrap64 (x7_1 + 1))) false)) else (truffleref06_text.j3 kj10 a0 x6_1 x7_1 (bt a0 (wrap64 (x7_1 + 1))) false)) else (none)) else (none))) else (if x6_1.length < 140737488355328 then (truffleref06_text.l0 kj10 a0 (x6_1 ++ [(bt a0 x7_1)]) (wrap64 (x7_1 + 1))) else (none))) = some (r1, r2) := by first | (rw [if_neg (show ¬ (false = true) by decide)] at H; exact H) | rfl
       clear H
       have H := H1
       clear H1
       by_cases c14 : (bt a0 x7_1) = 92
       rotate_left
       ·rw [if_neg c14] at H
        have c14b0 : ((bt a0 x7_1) == 92) = false := beq_eq_false_iff_ne.mpr c14
        have c14b1 : ((bt a0 x7_1) != 92) = true := bne_iff_ne.mpr c14
        by_cases c56 : x6_1.length < 140737488355328
        rotate_left
        ·rw [if_neg c56] at H
         exact absurd H (by simp)
        rw [if_pos c56] at H
        have LMc56 := Y0 c56
        clear c56
        obtain ⟨y207, hy207⟩ : ∃ y_ : List Int, y_ = (x6_1 ++ [(bt a0 x7_1)]) := ⟨_, rfl⟩
        replace H : (truffleref06_text.l0 kj10 a0 y207 (wrap64 (x7_1 + 1))) = some (r1, r2) := by first | (rw [hy207]; with_reducible exact H) | (have H2_ := (Option.bind_some _ _).symm.trans H; rw [hy207]; with_reducible exact H2_) | (have H2_ := (Option.bind_some _ _).symm.trans H; with_reducible exact H2_) | with_reducible exact H | (rw [hy207]; exact H) | exact H
        have Ny207 := Y0 hy207
        clear hy207
        have H' := Y0 H
        clear H
        go_wp2_with (first | ((with_reducible refine gate_builtin (b := .append) (xs := #[.tmp 33, .tmp 35]) rfl ?_); (try (refine gate_guard (by rfl) ?_; dsimp only)); at_builtin; refine Kd.R_append (Kd.int .u8) (w0 := w) w.heap.size rfl (.tmp 33) (.tmp 35) 63 5 (.int .u8 0) 1 rfl Tryd.underlying63 info5 rfl (by decide) (by omega) u6 x6_1 (bt a0 x7_1) [.int .u8 (bt a0 x7_1)] (fun _ => True) (fun _ => False) rfl rfl ?aP (fun _ hk => hk.elim) ?aF ?aO ?aB ?aS ?aL ?_; (case aP => exact rfl); (case aB => exact (by repeat (with_reducible first | exact HB.out | apply Y3 | apply Y1 | apply Y2))); (case aF => exact (fun _ _ => trivial)); (case aO => exact (by (with_reducible repeat (first | apply Kd.R_alloc | apply Y6 | apply Y7)); exact HO_6.out)); (case aS => exact (below_size (by repeat (with_reducible first | exact HB.out | apply Y3 | apply Y1 | apply Y2)))); (case aL => have := LMc56.out; omega); intro v208 w57 ho hb hg hat; rw [← Ny207.out] at ho; have n0_ := Y0 (hb); have n1_ := Y0 (ho); clear HB; clear HO_6; have HB := n0_; have HO209 := n1_; clear n0_ n1_; clear ho hb hg hat))
        go_roundg kj10
        case measure => have := HK1.out; have := HJ2.out; have := HJ10.out; omega
        case rel => exact ⟨(y207), (wrap64 (x7_1 + 1)), (by first | rfl | (simp; done) | (simp [*]; done)), H', ⟨by have := HK1.out; have := HJ2.out; have := HJ10.out; omega⟩, ⟨by (with_reducible repeat (first | apply Kd.R_alloc | apply Y6 | apply Y7)); exact HO209.out⟩, ⟨by repeat (with_reducible first | exact HB.out | apply Y3 | apply Y1 | apply Y2)⟩⟩
       rw [if_pos c14] at H
       have c14b0 : ((bt a0 x7_1) == 92) = true := beq_iff_eq.mpr c14
       have c14b1 : ((bt a0 x7_1) != 92) = false := bne_eq_false_iff_eq.mpr c14
       clear c14
       by_cases c15 : (wrap64 (x7_1 + 1)) ≥ (a0.size : Int)
       ·rw [if_pos c15] at H
        have c15b0 : decide ((a0.size : Int) ≤ (wrap64 (x7_1 + 1))) = true := decide_eq_true c15
        clear c15
        simp only [Option.some.injEq, Prod.mk.injEq] at H
        obtain ⟨rfl, rfl⟩ := H
        go_wp2
        go_ret2
        exact ⟨by first | rfl | (simp [] <;> rfl) | (simp [*] <;> rfl), by repeat (with_reducible first | exact HB.out | apply Y3 | apply Y1 | apply Y2)⟩
       rw [if_neg c15] at H
       have c15b0 : decide ((a0.size : Int) ≤ (wrap64 (x7_1 + 1))) = false := decide_eq_false c15
       clear c15
       obtain ⟨ji16, hji16⟩ : ∃ j_ : Int, (wrap64 (x7_1 + 1)) = j_ := ⟨_, rfl⟩
       replace H : (if 0 ≤ (ji16) then (if (ji16) < (a0.size : Int) then (if (bt a0 (ji16)) = 120 then (if (wrap64 (x7_1 + 3)) < (a0.size : Int) then (if 0 ≤ (wrap64 (x7_1 + 2)) then (if (wrap64 (x7_1 + 2)) < (a0.size : Int) then ((truffleref06_hex.f (bt a0 (wrap64 (x7_1 + 2)))).bind fun t210 => (if t210 ≥ 0 then (if 0 ≤ (wrap64 (x7_1 + 3)) then ((truffleref06_hex.f (bt a0 (wrap64 (x7_1 + 3)))).bind fun t211 => (truffleref06_text.j3 kj10 a0 x6_1 x7_1 (bt a0 (ji16)) (decide (t211 ≥ 0)))) else (none)) else (truffleref06_text.j3 kj10 a0 x6_1 x7_1 (bt a0 (ji16)) false))) else (none)) else (none)) else (truffleref06_text.j3 kj10 a0 x6_1 x7_1 (bt a0 (ji16)) false)) else (truffleref06_text.j3 kj10 a0 x6_1 x7_1 (bt a0 (ji16)) false)) else (none)) else (none)) = some (r1, r2) := by first | (rw [hji16] at H; exact H) | (simp only [hji16] at H ⊢; exact H)
       (try rw [hji16] at c15b0)
       have hji16w : (IntKind.i64.wrap (x7_1 + 1)) = ji16 := (i64_w _).trans hji16
       by_cases c17 : 0 ≤ (ji16)
       rotate_left
       ·rw [if_neg c17] at H
        exact absurd H (by simp)
       rw [if_pos c17] at H
       have c17b0 : decide (0 ≤ (ji16)) = true := decide_eq_true c17
       clear c17
       by_cases c18 : (ji16) < (a0.size : Int)
       rotate_left
       ·rw [if_neg c18] at H
        exact absurd H (by simp)
       rw [if_pos c18] at H
       have c18b0 : decide ((ji16) < (a0.size : Int)) = true := decide_eq_true c18
       clear c18
       have HC20 := Y0 H
       clear H
       have p19 : 0 ≤ ((ji16) : Int) := of_decide_eq_true (by first | (with_reducible assumption) | assumption)
       have q19 : (ji16) < (a0.size : Int) := of_decide_eq_true (by first | (with_reducible assumption) | assumption)
       have hx19 := bt_at a0 (ji16)
       replace p19 := eq_true p19
       replace q19 := eq_true q19
       go_upto_region 13 with (fail)
       go_cut [72] (fun v72 wc => ∃ (kq : Nat) (x72_19 : Bool), v72 = .bool x72_19 ∧ Aside0 (truffleref06_text.j3 kq a0 x6_1 x7_1 (bt a0 (ji16)) x72_19 = some (r1, r2)) ∧ Aside0 (kq ≤ kj10) ∧ Aside0 (Kd.R (Kd.int .u8) 5 wc w.heap.size (fun _ => True) u6 x6_1) ∧ Aside0 (Below w.heap.size w wc))
       case first =>
        have H := HC20.out
        clear HC20
        by_cases c21 : (bt a0 (ji16)) = 120
        rotate_left
        ·rw [if_neg c21] at H
         have c21b0 : ((bt a0 (ji16)) == 120) = false := beq_eq_false_iff_ne.mpr c21
         have c21b1 : ((bt a0 (ji16)) != 120) = true := bne_iff_ne.mpr c21
         (first | rw [c21b0] | (simp only [i64_w]; rw [c21b0]) | skip)
         have H' := Y0 H
         clear H
         go_wp2
         go_meet
         case rel => exact ⟨_, (false), (by first | rfl | (simp; done) | (simp [*]; done)), H', ⟨by have := HK1.out; have := HJ2.out; have := HJ10.out; first | omega | exact Nat.le_refl _⟩, ⟨by (with_reducible repeat (first | apply Kd.R_alloc | apply Y6 | apply Y7)); exact HO_6.out⟩, ⟨by repeat (with_reducible first | exact HB.out | apply Y3 | apply Y1 | apply Y2)⟩⟩
        rw [if_pos c21] at H
        have c21b0 : ((bt a0 (ji16)) == 120) = true := beq_iff_eq.mpr c21
        have c21b1 : ((bt a0 (ji16)) != 120) = false := bne_eq_false_iff_eq.mpr c21
        clear c21
        (first | rw [c21b0] | (simp only [i64_w]; rw [c21b0]) | skip)
        by_cases c22 : (wrap64 (x7_1 + 3)) < (a0.size : Int)
        rotate_left
        ·rw [if_neg c22] at H
         have c22b0 : decide ((wrap64 (x7_1 + 3)) < (a0.size : Int)) = false := decide_eq_false c22
         clear c22
         have H' := Y0 H
         clear H
         go_wp2
         go_meet
         case rel => exact ⟨_, (false), (by first | rfl | (simp; done) | (simp [*]; done)), H', ⟨by have := HK1.out; have := HJ2.out; have := HJ10.out; first | omega | exact Nat.le_refl _⟩, ⟨by (with_reducible repeat (first | apply Kd.R_alloc | apply Y6 | apply Y7)); exact HO_6.out⟩, ⟨by repeat (with_reducible first | exact HB.out | apply Y3 | apply Y1 | apply Y2)⟩⟩
        rw [if_pos c22] at H
        have c22b0 : decide ((wrap64 (x7_1 + 3)) < (a0.size : Int)) = true := decide_eq_true c22
        clear c22
        obtain ⟨ji23, hji23⟩ : ∃ j_ : Int, (wrap64 (x7_1 + 2)) = j_ := ⟨_, rfl⟩
        replace H : (if 0 ≤ (ji23) then (if (ji23) < (a0.size : Int) then ((truffleref06_hex.f (bt a0 (ji23))).bind fun t210 => (if t210 ≥ 0 then (if 0 ≤ (wrap64 (x7_1 + 3)) then ((truffleref06_hex.f (bt a0 (wrap64 (x7_1 + 3)))).bind fun t211 => (truffleref06_text.j3 kj10 a0 x6_1 x7_1 (bt a0 (ji16)) (decide (t211 ≥ 0)))) else (none)) else (truffleref06_text.j3 kj10 a0 x6_1 x7_1 (bt a0 (ji16)) false))) else (none)) else (none)) = some (r1, r2) := by first | (rw [hji23] at H; exact H) | (simp only [hji23] at H ⊢; exact H)
        have hji23w : (IntKind.i64.wrap (x7_1 + 2)) = ji23 := (i64_w _).trans hji23
        by_cases c24 : 0 ≤ (ji23)
        rotate_left
        ·rw [if_neg c24] at H
         exact absurd H (by simp)
        rw [if_pos c24] at H
        have c24b0 : decide (0 ≤ (ji23)) = true := decide_eq_true c24
        clear c24
        by_cases c25 : (ji23) < (a0.size : Int)
        rotate_left
        ·rw [if_neg c25] at H
         exact absurd H (by simp)
        rw [if_pos c25] at H
        have c25b0 : decide ((ji23) < (a0.size : Int)) = true := decide_eq_true c25
        clear c25
        replace H := Y17.mp H
        obtain ⟨t210, A270, H⟩ := H
        replace H : (if t210 ≥ 0 then (if 0 ≤ (wrap64 (x7_1 + 3)) then ((truffleref06_hex.f (bt a0 (wrap64 (x7_1 + 3)))).bind fun t211 => (truffleref06_text.j3 kj10 a0 x6_1 x7_1 (bt a0 (ji16)) (decide (t211 ≥ 0)))) else (none)) else (truffleref06_text.j3 kj10 a0 x6_1 x7_1 (bt a0 (ji16)) false)) = some (r1, r2) := H
        have A27 := Y0 A270
        clear A270
        by_cases c28 : t210 ≥ 0
        rotate_left
        ·rw [if_neg c28] at H
         have c28b0 : decide (0 ≤ t210) = false := decide_eq_false c28
         clear c28
         have H' := Y0 H
         clear H
         have p26 : 0 ≤ ((ji23) : Int) := of_decide_eq_true (by first | (with_reducible assumption) | assumption)
         have q26 : (ji23) < (a0.size : Int) := of_decide_eq_true (by first | (with_reducible assumption) | assumption)
         have hx26 := bt_at a0 (ji23)
         replace p26 := eq_true p26
         replace q26 := eq_true q26
         go_wp2_with (first | (go_at_call 79; (with_reducible refine (truffleref06_hex.calls (bt a0 (ji23)) t210 _ A27.out).mono ?_); rintro e w' ⟨rfl, ⟨nd, rfl⟩⟩))
         go_meet
         case rel => exact ⟨_, (false), (by first | rfl | (simp; done) | (simp [*]; done)), H', ⟨by have := HK1.out; have := HJ2.out; have := HJ10.out; first | omega | exact Nat.le_refl _⟩, ⟨by (with_reducible repeat (first | apply Kd.R_alloc | apply Y6 | apply Y7)); exact HO_6.out⟩, ⟨by repeat (with_reducible first | exact HB.out | apply Y3 | apply Y1 | apply Y2)⟩⟩
        rw [if_pos c28] at H
        have c28b0 : decide (0 ≤ t210) = true := decide_eq_true c28
        clear c28
        obtain ⟨ji29, hji29⟩ : ∃ j_ : Int, (wrap64 (x7_1 + 3)) = j_ := ⟨_, rfl⟩
        replace H : (if 0 ≤ (ji29) then ((truffleref06_hex.f (bt a0 (ji29))).bind fun t211 => (truffleref06_text.j3 kj10 a0 x6_1 x7_1 (bt a0 (ji16)) (decide (t211 ≥ 0)))) else (none)) = some (r1, r2) := by first | (rw [hji29] at H; exact H) | (simp only [hji29] at H ⊢; exact H)
        (try rw [hji29] at c22b0)
        (try rw [hji29] at A27)
        have hji29w : (IntKind.i64.wrap (x7_1 + 3)) = ji29 := (i64_w _).trans hji29
        by_cases c30 : 0 ≤ (ji29)
        rotate_left
        ·rw [if_neg c30] at H
         exact absurd H (by simp)
        rw [if_pos c30] at H
        have c30b0 : decide (0 ≤ (ji29)) = true := decide_eq_true c30
        clear c30
        replace H := Y17.mp H
        obtain ⟨t211, A320, H⟩ := H
        replace H : (truffleref06_text.j3 kj10 a0 x6_1 x7_1 (bt a0 (ji16)) (decide (t211 ≥ 0))) = some (r1, r2) := H
        have A32 := Y0 A320
        clear A320
        have H' := Y0 H
        clear H
        have p26 : 0 ≤ ((ji23) : Int) := of_decide_eq_true (by first | (with_reducible assumption) | assumption)
        have q26 : (ji23) < (a0.size : Int) := of_decide_eq_true (by first | (with_reducible assumption) | assumption)
        have hx26 := bt_at a0 (ji23)
        replace p26 := eq_true p26
        replace q26 := eq_true q26
        go_wp2_with (first | (go_at_call 79; (with_reducible refine (truffleref06_hex.calls (bt a0 (ji23)) t210 _ A27.out).mono ?_); rintro e w' ⟨rfl, ⟨nd, rfl⟩⟩; have p31 : 0 ≤ ((ji29) : Int) := of_decide_eq_true (by first | (with_reducible assumption) | assumption); have q31 : (ji29) < (a0.size : Int) := of_decide_eq_true (by first | (with_reducible assumption) | assumption); have hx31 := bt_at a0 (ji29); replace p31 := eq_true p31; replace q31 := eq_true q31) | (go_at_call 79; (with_reducible refine (truffleref06_hex.calls (bt a0 (ji29)) t211 _ A32.out).mono ?_); rintro e w' ⟨rfl, ⟨nd, rfl⟩⟩))
        go_meet
        case rel => exact ⟨_, (decide (t211 ≥ 0)), (by first | rfl | (simp; done) | (simp [*]; done)), H', ⟨by have := HK1.out; have := HJ2.out; have := HJ10.out; first | omega | exact Nat.le_refl _⟩, ⟨by (with_reducible repeat (first | apply Kd.R_alloc | apply Y6 | apply Y7)); exact HO_6.out⟩, ⟨by repeat (with_reducible first | exact HB.out | apply Y3 | apply Y1 | apply Y2)⟩⟩
       case rest =>
        clear HC20
        obtain ⟨kq, x72_19, rfl, HA, HJ19, HO_6, HB⟩ := hcut
        cases kq with
        | zero => exact absurd HA.out (by simp [truffleref06_text.j3])
        | succ kj19 =>
         have H := HA.out
         clear HA
         simp only [truffleref06_text.j3] at H
         by_cases c33 : x72_19 = true
         rotate_left
         ·replace c33 := Bool.eq_false_iff.mpr c33
          subst c33
          have H1 : (if (bt a0 (ji16)) = 110 then (truffleref06_text.j4 kj19 a0 x6_1 x7_1 (bt a0 (ji16)) false) else (if (bt a0 (ji16)) = 92 then (truffleref06_text.j4 kj19 a0 x6_1 x7_1 (bt a0 (ji16)) false) else (truffleref06_text.j4 kj19 a0 x6_1 x7_1 (bt a0 (ji16)) ((bt a0 (ji16)) != 34)))) = some (r1, r2) := by first | (rw [if_neg (show ¬ (false = true) by decide)] at H; exact H) | rfl
          clear H
          have H := H1
          clear H1
          have HC47 := Y0 H
          clear H
          go_upto_region 16 with (fail)
          go_cut [100] (fun v100 wc => ∃ (kq : Nat) (x100_46 : Bool), v100 = .bool x100_46 ∧ Aside0 (truffleref06_text.j4 kq a0 x6_1 x7_1 (bt a0 (ji16)) x100_46 = some (r1, r2)) ∧ Aside0 (kq ≤ kj19) ∧ Aside0 (Kd.R (Kd.int .u8) 5 wc w.heap.size (fun _ => True) u6 x6_1) ∧ Aside0 (Below w.heap.size w wc))
          case first =>
           have H := HC47.out
           clear HC47
           by_cases c48 : (bt a0 (ji16)) = 110
           ·rw [if_pos c48] at H
            have c48b0 : ((bt a0 (ji16)) == 110) = true := beq_iff_eq.mpr c48
            have c48b1 : ((bt a0 (ji16)) != 110) = false := bne_eq_false_iff_eq.mpr c48
            clear c48
            (first | rw [c48b0] | (simp only [i64_w]; rw [c48b0]) | skip)
            have H' := Y0 H
            clear H
            go_wp2
            go_meet
            case rel => exact ⟨_, (false), (by first | rfl | (simp; done) | (simp [*]; done)), H', ⟨by have := HK1.out; have := HJ2.out; have := HJ10.out; have := HJ19.out; first | omega | exact Nat.le_refl _⟩, ⟨by (with_reducible repeat (first | apply Kd.R_alloc | apply Y6 | apply Y7)); exact HO_6.out⟩, ⟨by repeat (with_reducible first | exact HB.out | apply Y3 | apply Y1 | apply Y2)⟩⟩
           rw [if_neg c48] at H
           have c48b0 : ((bt a0 (ji16)) == 110) = false := beq_eq_false_iff_ne.mpr c48
           have c48b1 : ((bt a0 (ji16)) != 110) = true := bne_iff_ne.mpr c48
           (first | rw [c48b0] | (simp only [i64_w]; rw [c48b0]) | skip)
           by_cases c49 : (bt a0 (ji16)) = 92
           ·rw [if_pos c49] at H
            have c49b0 : ((bt a0 (ji16)) == 92) = true := beq_iff_eq.mpr c49
            have c49b1 : ((bt a0 (ji16)) != 92) = false := bne_eq_false_iff_eq.mpr c49
            clear c49
            have H' := Y0 H
            clear H
            go_wp2
            go_meet
            case rel => exact ⟨_, (false), (by first | rfl | (simp; done) | (simp [*]; done)), H', ⟨by have := HK1.out; have := HJ2.out; have := HJ10.out; have := HJ19.out; first | omega | exact Nat.le_refl _⟩, ⟨by (with_reducible repeat (first | apply Kd.R_alloc | apply Y6 | apply Y7)); exact HO_6.out⟩, ⟨by repeat (with_reducible first | exact HB.out | apply Y3 | apply Y1 | apply Y2)⟩⟩
           rw [if_neg c49] at H
           have c49b0 : ((bt a0 (ji16)) == 92) = false := beq_eq_false_iff_ne.mpr c49
           have c49b1 : ((bt a0 (ji16)) != 92) = true := bne_iff_ne.mpr c49
           have H' := Y0 H
           clear H
           go_wp2
           go_meet
           case rel => exact ⟨_, (((bt a0 (ji16)) != 34)), (by first | rfl | (simp; done) | (simp only [← hji16] <;> (first | rfl | simp)) | (simp [*]; done)), H', ⟨by have := HK1.out; have := HJ2.out; have := HJ10.out; have := HJ19.out; first | omega | exact Nat.le_refl _⟩, ⟨by (with_reducible repeat (first | apply Kd.R_alloc | apply Y6 | apply Y7)); exact HO_6.out⟩, ⟨by repeat (with_reducible first | exact HB.out | apply Y3 | apply Y1 | apply Y2)⟩⟩
          case rest =>
           clear HC47
           obtain ⟨kq, x100_46, rfl, HA, HJ46, HO_6, HB⟩ := hcut
           cases kq with
           | zero => exact absurd HA.out (by simp [truffleref06_text.j4])
           | succ kj46 =>
            have H := HA.out
            clear HA
            simp only [truffleref06_text.j4] at H
            by_cases c50 : x100_46 = true
            ·subst c50
             have H1 : (some ((⟨#[]⟩ : ByteArray), (-1))) = some (r1, r2) := by first | (rw [if_pos rfl] at H; exact H) | rfl
             clear H
             have H := H1
             clear H1
             simp only [Option.some.injEq, Prod.mk.injEq] at H
             obtain ⟨rfl, rfl⟩ := H
             go_wp2
             go_ret2
             exact ⟨by first | rfl | (simp [] <;> rfl) | (simp only [← hji16]; first | rfl | (simp [] <;> rfl)) | (simp [*] <;> rfl), by repeat (with_reducible first | exact HB.out | apply Y3 | apply Y1 | apply Y2)⟩
            replace c50 := Bool.eq_false_iff.mpr c50
            subst c50
            have H1 : (if (bt a0 (ji16)) = 110 then (if x6_1.length < 140737488355328 then (truffleref06_text.l0 kj46 a0 (x6_1 ++ [10]) (wrap64 (x7_1 + 2))) else (none)) else (if x6_1.length < 140737488355328 then (truffleref06_text.l0 kj46 a0 (x6_1 ++ [(bt a0 (ji16))]) (wrap64 (x7_1 + 2))) else (none))) = some (r1, r2) := by first | (rw [if_neg (show ¬ (false = true) by decide)] at H; exact H) | rfl
            clear H
            have H := H1
            clear H1
            by_cases c51 : (bt a0 (ji16)) = 110
            rotate_left
            ·rw [if_neg c51] at H
             have c51b0 : ((bt a0 (ji16)) == 110) = false := beq_eq_false_iff_ne.mpr c51
             have c51b1 : ((bt a0 (ji16)) != 110) = true := bne_iff_ne.mpr c51
             by_cases c54 : x6_1.length < 140737488355328
             rotate_left
             ·rw [if_neg c54] at H
              exact absurd H (by simp)
             rw [if_pos c54] at H
             have LMc54 := Y0 c54
             clear c54
             obtain ⟨y220, hy220⟩ : ∃ y_ : List Int, y_ = (x6_1 ++ [(bt a0 (ji16))]) := ⟨_, rfl⟩
             replace H : (truffleref06_text.l0 kj46 a0 y220 (wrap64 (x7_1 + 2))) = some (r1, r2) := by first | (rw [hy220]; with_reducible exact H) | (have H2_ := (Option.bind_some _ _).symm.trans H; rw [hy220]; with_reducible exact H2_) | (have H2_ := (Option.bind_some _ _).symm.trans H; with_reducible exact H2_) | with_reducible exact H | (rw [hy220]; exact H) | exact H
             have Ny220 := Y0 hy220
             clear hy220
             have H' := Y0 H
             clear H
             go_wp2_with (first | ((with_reducible refine gate_builtin (b := .append) (xs := #[.tmp 103, .tmp 105]) rfl ?_); (try (refine gate_guard (by rfl) ?_; dsimp only)); at_builtin; refine Kd.R_append (Kd.int .u8) (w0 := w) w.heap.size rfl (.tmp 103) (.tmp 105) 63 5 (.int .u8 0) 1 rfl Tryd.underlying63 info5 rfl (by decide) (by omega) u6 x6_1 (bt a0 (ji16)) [.int .u8 (bt a0 (ji16))] (fun _ => True) (fun _ => False) rfl rfl ?aP (fun _ hk => hk.elim) ?aF ?aO ?aB ?aS ?aL ?_; (case aP => exact rfl); (case aB => exact (by repeat (with_reducible first | exact HB.out | apply Y3 | apply Y1 | apply Y2))); (case aF => exact (fun _ _ => trivial)); (case aO => exact (by (with_reducible repeat (first | apply Kd.R_alloc | apply Y6 | apply Y7)); exact HO_6.out)); (case aS => exact (below_size (by repeat (with_reducible first | exact HB.out | apply Y3 | apply Y1 | apply Y2)))); (case aL => have := LMc54.out; omega); intro v221 w55 ho hb hg hat; rw [← Ny220.out] at ho; have n0_ := Y0 (hb); have n1_ := Y0 (ho); clear HB; clear HO_6; have HB := n0_; have HO222 := n1_; clear n0_ n1_; clear ho hb hg hat))
             go_roundg kj46
             case measure => have := HK1.out; have := HJ2.out; have := HJ10.out; have := HJ19.out; have := HJ46.out; omega
             case rel => exact ⟨(y220), (wrap64 (x7_1 + 2)), (by first | rfl | (simp; done) | (simp [*]; done)), H', ⟨by have := HK1.out; have := HJ2.out; have := HJ10.out; have := HJ19.out; have := HJ46.out; omega⟩, ⟨by (with_reducible repeat (first | apply Kd.R_alloc | apply Y6 | apply Y7)); exact HO222.out⟩, ⟨by repeat (with_reducible first | exact HB.out | apply Y3 | apply Y1 | apply Y2)⟩⟩
            rw [if_pos c51] at H
            have c51b0 : ((bt a0 (ji16)) == 110) = true := beq_iff_eq.mpr c51
            have c51b1 : ((bt a0 (ji16)) != 110) = false := bne_eq_false_iff_eq.mpr c51
            clear c51
            by_cases c52 : x6_1.length < 140737488355328
            rotate_left
            ·rw [if_neg c52] at H
             exact absurd H (by simp)
            rw [if_pos c52] at H
            have LMc52 := Y0 c52
            clear c52
            obtain ⟨y217, hy217⟩ : ∃ y_ : List Int, y_ = (x6_1 ++ [10]) := ⟨_, rfl⟩
            replace H : (truffleref06_text.l0 kj46 a0 y217 (wrap64 (x7_1 + 2))) = some (r1, r2) := by first | (rw [hy217]; with_reducible exact H) | (have H2_ := (Option.bind_some _ _).symm.trans H; rw [hy217]; with_reducible exact H2_) | (have H2_ := (Option.bind_some _ _).symm.trans H; with_reducible exact H2_) | with_reducible exact H | (rw [hy217]; exact H) | exact H
            have Ny217 := Y0 hy217
            clear hy217
            have H' := Y0 H
            clear H
            go_wp2_with (first | ((with_reducible refine gate_builtin (b := .append) (xs := #[.tmp 103, .tmp 105]) rfl ?_); (try (refine gate_guard (by rfl) ?_; dsimp only)); at_builtin; refine Kd.R_append (Kd.int .u8) (w0 := w) w.heap.size rfl (.tmp 103) (.tmp 105) 63 5 (.int .u8 0) 1 rfl Tryd.underlying63 info5 rfl (by decide) (by omega) u6 x6_1 10 [.int .u8 10] (fun _ => True) (fun _ => False) rfl rfl ?aP (fun _ hk => hk.elim) ?aF ?aO ?aB ?aS ?aL ?_; (case aP => exact rfl); (case aB => exact (by repeat (with_reducible first | exact HB.out | apply Y3 | apply Y1 | apply Y2))); (case aF => exact (fun _ _ => trivial)); (case aO => exact (by (with_reducible repeat (first | apply Kd.R_alloc | apply Y6 | apply Y7)); exact HO_6.out)); (case aS => exact (below_size (by repeat (with_reducible first | exact HB.out | apply Y3 | apply Y1 | apply Y2)))); (case aL => have := LMc52.out; omega); intro v218 w53 ho hb hg hat; rw [← Ny217.out] at ho; have n0_ := Y0 (hb); have n1_ := Y0 (ho); clear HB; clear HO_6; have HB := n0_; have HO219 := n1_; clear n0_ n1_; clear ho hb hg hat))
            go_roundg kj46
            case measure => have := HK1.out; have := HJ2.out; have := HJ10.out; have := HJ19.out; have := HJ46.out; omega
            case rel => exact ⟨(y217), (wrap64 (x7_1 + 2)), (by first | rfl | (simp; done) | (simp [*]; done)), H', ⟨by have := HK1.out; have := HJ2.out; have := HJ10.out; have := HJ19.out; have := HJ46.out; omega⟩, ⟨by (with_reducible repeat (first | apply Kd.R_alloc | apply Y6 | apply Y7)); exact HO219.out⟩, ⟨by repeat (with_reducible first | exact HB.out | apply Y3 | apply Y1 | apply Y2)⟩⟩
         subst c33
         have H1 : (if 0 ≤ (wrap64 (x7_1 + 2)) then (if (wrap64 (x7_1 + 2)) < (a0.size : Int) then ((truffleref06_hex.f (bt a0 (wrap64 (x7_1 + 2)))).bind fun t212 => (if 0 ≤ (wrap64 (x7_1 + 3)) then (if (wrap64 (x7_1 + 3)) < (a0.size : Int) then ((truffleref06_hex.f (bt a0 (wrap64 (x7_1 + 3)))).bind fun t213 => (if x6_1.length < 140737488355328 then (truffleref06_text.l0 kj19 a0 (x6_1 ++ [(wrap64 ((wrap64 (16 * t212)) + t213)) % 256]) (wrap64 (x7_1 + 4))) else (none))) else (none)) else (none))) else (none)) else (none)) = some (r1, r2) := by first | (rw [if_pos rfl] at H; exact H) | rfl
         clear H
         have H := H1
         clear H1
         obtain ⟨ji34, hji34⟩ : ∃ j_ : Int, (wrap64 (x7_1 + 2)) = j_ := ⟨_, rfl⟩
         replace H : (if 0 ≤ (ji34) then (if (ji34) < (a0.size : Int) then ((truffleref06_hex.f (bt a0 (ji34))).bind fun t212 => (if 0 ≤ (wrap64 (x7_1 + 3)) then (if (wrap64 (x7_1 + 3)) < (a0.size : Int) then ((truffleref06_hex.f (bt a0 (wrap64 (x7_1 + 3)))).bind fun t213 => (if x6_1.length < 140737488355328 then (truffleref06_text.l0 kj19 a0 (x6_1 ++ [(wrap64 ((wrap64 (16 * t212)) + t213)) % 256]) (wrap64 (x7_1 + 4))) else (none))) else (none)) else (none))) else (none)) else (none)) = some (r1, r2) := by first | (rw [hji34] at H; exact H) | (simp only [hji34] at H ⊢; exact H)
         have hji34w : (IntKind.i64.wrap (x7_1 + 2)) = ji34 := (i64_w _).trans hji34
         by_cases c35 : 0 ≤ (ji34)
         rotate_left
         ·rw [if_neg c35] at H
          exact absurd H (by simp)
         rw [if_pos c35] at H
         have c35b0 : decide (0 ≤ (ji34)) = true := decide_eq_true c35
         clear c35
         by_cases c36 : (ji34) < (a0.size : Int)
         rotate_left
         ·rw [if_neg c36] at H
          exact absurd H (by simp)
         rw [if_pos c36] at H
         have c36b0 : decide ((ji34) < (a0.size : Int)) = true := decide_eq_true c36
         clear c36
         replace H := Y17.mp H
         obtain ⟨t212, A380, H⟩ := H
         replace H : (if 0 ≤ (wrap64 (x7_1 + 3)) then (if (wrap64 (x7_1 + 3)) < (a0.size : Int) then ((truffleref06_hex.f (bt a0 (wrap64 (x7_1 + 3)))).bind fun t213 => (if x6_1.length < 140737488355328 then (truffleref06_text.l0 kj19 a0 (x6_1 ++ [(wrap64 ((wrap64 (16 * t212)) + t213)) % 256]) (wrap64 (x7_1 + 4))) else (none))) else (none)) else (none)) = some (r1, r2) := H
         have A38 := Y0 A380
         clear A380
         obtain ⟨ji39, hji39⟩ : ∃ j_ : Int, (wrap64 (x7_1 + 3)) = j_ := ⟨_, rfl⟩
         replace H : (if 0 ≤ (ji39) then (if (ji39) < (a0.size : Int) then ((truffleref06_hex.f (bt a0 (ji39))).bind fun t213 => (if x6_1.length < 140737488355328 then (truffleref06_text.l0 kj19 a0 (x6_1 ++ [(wrap64 ((wrap64 (16 * t212)) + t213)) % 256]) (wrap64 (x7_1 + 4))) else (none))) else (none)) else (none)) = some (r1, r2) := by first | (rw [hji39] at H; exact H) | (simp only [hji39] at H ⊢; exact H)
         (try rw [hji39] at A38)
         have hji39w : (IntKind.i64.wrap (x7_1 + 3)) = ji39 := (i64_w _).trans hji39
         by_cases c40 : 0 ≤ (ji39)
         rotate_left
         ·rw [if_neg c40] at H
          exact absurd H (by simp)
         rw [if_pos c40] at H
         have c40b0 : decide (0 ≤ (ji39)) = true := decide_eq_true c40
         clear c40
         by_cases c41 : (ji39) < (a0.size : Int)
         rotate_left
         ·rw [if_neg c41] at H
          exact absurd H (by simp)
         rw [if_pos c41] at H
         have c41b0 : decide ((ji39) < (a0.size : Int)) = true := decide_eq_true c41
         clear c41
         replace H := Y17.mp H
         obtain ⟨t213, A430, H⟩ := H
         replace H : (if x6_1.length < 140737488355328 then (truffleref06_text.l0 kj19 a0 (x6_1 ++ [(wrap64 ((wrap64 (16 * t212)) + t213)) % 256]) (wrap64 (x7_1 + 4))) else (none)) = some (r1, r2) := H
         have A43 := Y0 A430
         clear A430
         by_cases c44 : x6_1.length < 140737488355328
         rotate_left
         ·rw [if_neg c44] at H
          exact absurd H (by simp)
         rw [if_pos c44] at H
         have LMc44 := Y0 c44
         clear c44
         obtain ⟨y214, hy214⟩ : ∃ y_ : List Int, y_ = (x6_1 ++ [(wrap64 ((wrap64 (16 * t212)) + t213)) % 256]) := ⟨_, rfl⟩
         replace H : (truffleref06_text.l0 kj19 a0 y214 (wrap64 (x7_1 + 4))) = some (r1, r2) := by first | (rw [hy214]; with_reducible exact H) | (have H2_ := (Option.bind_some _ _).symm.trans H; rw [hy214]; with_reducible exact H2_) | (have H2_ := (Option.bind_some _ _).symm.trans H; with_reducible exact H2_) | with_reducible exact H | (rw [hy214]; exact H) | exact H
         have Ny214 := Y0 hy214
         clear hy214
         have H' := Y0 H
         clear H
         try go_wp2
         have n0_ := Y0 (Kd.R_drew HO_6.out)
         have n1_ := Y0 (below_drew1 HB.out)
         clear HO_6
         clear HB
         have HO_6 := n0_
         have HB := n1_
         clear n0_ n1_
         have p37 : 0 ≤ ((ji34) : Int) := of_decide_eq_true (by first | (with_reducible assumption) | assumption)
         have q37 : (ji34) < (a0.size : Int) := of_decide_eq_true (by first | (with_reducible assumption) | assumption)
         have hx37 := bt_at a0 (ji34)
         replace p37 := eq_true p37
         replace q37 := eq_true q37
         have p42 : 0 ≤ ((ji39) : Int) := of_decide_eq_true (by first | (with_reducible assumption) | assumption)
         have q42 : (ji39) < (a0.size : Int) := of_decide_eq_true (by first | (with_reducible assumption) | assumption)
         have hx42 := bt_at a0 (ji39)
         replace p42 := eq_true p42
         replace q42 := eq_true q42
         refine start_ (n := 17) (S := fun w' => True) (ds := []) #[false, false, false, false, false, false, false, false, false, false, false, false, false, false, false, false, false] (by kernel_rfl) rfl rfl trivial (fun hHeld => ?_); refine with_tabW truffleref06_text.tab14 truffleref06_text.bits14 (fun HT_ HW_ => ?_)
         generalize wc.drew = w45 at HO_6 HB hHeld ⊢
         refine pure_ (i := 0) (N := some 73) (v := ?_) (a' := ?_) (sqB 17 1) rfl rfl (any_of HT_.out (by kernel_rfl)) (fun _ _ _ h => h) (Or.inl ⟨by rfl, ?_⟩) ?_ ?_
         rotate_left
         ·intro w'
          go_simp
          with_reducible rfl
         rotate_left
         ·simp only [Act.put, Y14, Y15, Y16, i64_w]
          rfl
         refine pure_ (i := 1) (N := some 74) (v := ?_) (a' := ?_) (sqB 17 3) rfl rfl (any_of HT_.out (by kernel_rfl)) (fun _ _ _ h => h) (Or.inl ⟨by rfl, ?_⟩) ?_ ?_
         rotate_left
         ·intro w'
          go_simp
          with_reducible rfl
         rotate_left
         ·simp only [Act.put, Y14, Y15, Y16, i64_w]
          rfl
         refine pure_ (i := 2) (N := some 75) (v := ?_) (a' := ?_) (sqB 17 7) rfl rfl (any_of HT_.out (by kernel_rfl)) (fun _ _ _ h => h) (Or.inl ⟨by rfl, ?_⟩) ?_ ?_
         rotate_left
         ·intro w'
          go_simp
          with_reducible rfl
         rotate_left
         ·simp only [Act.put, Y14, Y15, Y16, i64_w]
          rfl
         refine pure_ (i := 3) (N := some 76) (v := ?_) (a' := ?_) (sqB 17 15) rfl rfl (any_of HT_.out (by kernel_rfl)) (fun _ _ _ h => h) (Or.inl ⟨by rfl, ?_⟩) ?_ ?_
         rotate_left
         ·intro w'
          go_simp
          with_reducible rfl
         rotate_left
         ·simp only [Act.put, Y14, Y15, Y16, i64_w]
          rfl
         refine pure_ (i := 7) (N := some 80) (v := ?_) (a' := ?_) (sqB 17 143) rfl rfl (any_of HT_.out (by kernel_rfl)) (fun _ _ _ h => h) (Or.inl ⟨by rfl, ?_⟩) ?_ ?_
         rotate_left
         ·intro w'
          go_simp
          with_reducible rfl
         rotate_left
         ·simp only [Act.put, Y14, Y15, Y16, i64_w]
          rfl
         refine pure_ (i := 8) (N := some 81) (v := ?_) (a' := ?_) (sqB 17 399) rfl rfl (any_of HT_.out (by kernel_rfl)) (fun _ _ _ h => h) (Or.inl ⟨by rfl, ?_⟩) ?_ ?_
         rotate_left
         ·intro w'
          go_simp
          with_reducible rfl
         rotate_left
         ·simp only [Act.put, Y14, Y15, Y16, i64_w]
          rfl
         refine pure_ (i := 9) (N := some 82) (v := ?_) (a' := ?_) (sqB 17 911) rfl rfl (any_of HT_.out (by kernel_rfl)) (fun _ _ _ h => h) (Or.inl ⟨by rfl, ?_⟩) ?_ ?_
         rotate_left
         ·intro w'
          go_simp
          with_reducible rfl
         rotate_left
         ·simp only [Act.put, Y14, Y15, Y16, i64_w]
          rfl
         refine take_ (i := 4) (N := some 77) (v := ?_) (a' := ?_) (sqB 17 927) rfl rfl (take_ofW HT_.out HW_.out (by kernel_rfl)) (fun _ _ _ h => h) (Or.inl ⟨by rfl, ?_⟩) hHeld ?_ ?_
         rotate_left
         ·intro w' _
          go_simp
          with_reducible rfl
         rotate_left
         ·simp only [Act.put, Y14, Y15, Y16, i64_w]
          rfl
         refine take_ (i := 10) (N := some 83) (v := ?_) (a' := ?_) (sqB 17 1951) rfl rfl (take_ofW HT_.out HW_.out (by kernel_rfl)) (fun _ _ _ h => h) (Or.inl ⟨by rfl, ?_⟩) hHeld ?_ ?_
         rotate_left
         ·intro w' _
          go_simp
          with_reducible rfl
         rotate_left
         ·simp only [Act.put, Y14, Y15, Y16, i64_w]
          rfl
         refine one_ (i := 5) (N := some 78) (sqB 17 1983) rfl rfl (one_of HT_.out (by kernel_rfl)) (by decide) (fun K hK => ?_)
         refine goes_ Tryd.func79 (by kernel_rfl) rfl #[.int .u8 (bt a0 (ji34))] (by rfl) rfl rfl (by (try simp only [List.map_toArray, List.map_cons, List.map_nil]); first | done | (simp only [hji34]; rfl) | rfl | (simp only [List.length_drop, List.length_take]; rfl)) ?_
         with_reducible refine (truffleref06_hex.calls (bt a0 (ji34)) t212 _ A38.out).mono ?_
         rintro e w' ⟨rfl, ⟨nd, rfl⟩⟩
         refine ⟨_, rfl, ?_⟩
         refine hK.out _ _ trivial (fun hHeld => ?_)
         clear hK K
         refine norm_ (a' := ?_) ?_ ?_
         rotate_left
         ·show Act.put _ (some 78) _ = _
          simp only [Act.put, Y14, Y15, Y16, i64_w]
          rfl
         refine pure_ (i := 6) (N := some 79) (v := ?_) (a' := ?_) (sqB 17 2047) rfl rfl (any_of HT_.out (by kernel_rfl)) (fun _ _ _ h => h) (Or.inl ⟨by rfl, ?_⟩) ?_ ?_
         rotate_left
         ·intro w'
          go_simp
          with_reducible rfl
         rotate_left
         ·simp only [Act.put, Y14, Y15, Y16, i64_w]
          rfl
         refine one_ (i := 11) (N := some 84) (sqB 17 4095) rfl rfl (one_of HT_.out (by kernel_rfl)) (by decide) (fun K hK => ?_)
         refine goes_ Tryd.func79 (by kernel_rfl) rfl #[.int .u8 (bt a0 (ji39))] (by rfl) rfl rfl (by (try simp only [List.map_toArray, List.map_cons, List.map_nil]); first | done | (simp only [hji39]; rfl) | rfl | (simp only [List.length_drop, List.length_take]; rfl)) ?_
         with_reducible refine (truffleref06_hex.calls (bt a0 (ji39)) t213 _ A43.out).mono ?_
         rintro e w' ⟨rfl, ⟨nd, rfl⟩⟩
         refine ⟨_, rfl, ?_⟩
         refine hK.out _ _ trivial (fun hHeld => ?_)
         clear hK K
         refine norm_ (a' := ?_) ?_ ?_
         rotate_left
         ·show Act.put _ (some 84) _ = _
          simp only [Act.put, Y14, Y15, Y16, i64_w]
          rfl
         refine pure_ (i := 12) (N := some 85) (v := ?_) (a' := ?_) (sqB 17 8191) rfl rfl (any_of HT_.out (by kernel_rfl)) (fun _ _ _ h => h) (Or.inl ⟨by rfl, ?_⟩) ?_ ?_
         rotate_left
         ·intro w'
          go_simp
          with_reducible rfl
         rotate_left
         ·simp only [Act.put, Y14, Y15, Y16, i64_w]
          rfl
         refine pure_ (i := 13) (N := some 86) (v := ?_) (a' := ?_) (sqB 17 16383) rfl rfl (any_of HT_.out (by kernel_rfl)) (fun _ _ _ h => h) (Or.inl ⟨by rfl, ?_⟩) ?_ ?_
         rotate_left
         ·intro w'
          go_simp
          with_reducible rfl
         rotate_left
         ·simp only [Act.put, Y14, Y15, Y16, i64_w]
          rfl
         refine one_ (i := 14) (N := some 87) (sqB 17 32767) rfl rfl (one_of HT_.out (by kernel_rfl)) (by decide) (fun K hK => ?_)
         refine value_ (w1 := ?_) (v := ?_) (by rfl) rfl ?_ ?_
         rotate_left 2
         ·go_simp
          constructor
          ·rfl
          ·rfl
         refine hK.out _ _ trivial (fun hHeld => ?_)
         clear hK K
         refine norm_ (a' := ?_) ?_ ?_
         rotate_left
         ·show Act.put _ (some 87) _ = _
          simp only [Act.put, Y14, Y15, Y16, i64_w]
          rfl
         refine one_ (i := 15) (N := some 88) (sqB 17 65535) rfl rfl (one_of HT_.out (by kernel_rfl)) (by decide) (fun K hK => ?_)
         refine Kd.R_append_step (Kd.int .u8) (w0 := w) w.heap.size (by rfl) (.tmp 73) (.tmp 87) 63 5 (.int .u8 0) 1 rfl Tryd.underlying63 info5 rfl (by decide) (by omega) u6 x6_1 ((wrap64 ((wrap64 (16 * t212)) + t213)) % 256) [.int .u8 ((wrap64 ((wrap64 (16 * t212)) + t213)) % 256)] (fun _ => True) (fun _ => False) rfl rfl ?aP (fun _ hk => hk.elim) ?aF ?aO ?aB ?aS ?aL ?_
         (case aP => exact rfl)
         (case aB => exact (by repeat (with_reducible first | exact HB.out | apply Y3 | apply Y1 | apply Y2)))
         (case aF => exact (fun _ _ => trivial))
         (case aO => exact (by (with_reducible repeat (first | apply Kd.R_alloc | apply Y6 | apply Y7)); exact HO_6.out))
         (case aS => exact (below_size (by repeat (with_reducible first | exact HB.out | apply Y3 | apply Y1 | apply Y2))))
         (case aL => have := LMc44.out; omega)
         intro v215 w46 ho hb hg hat
         rw [← Ny214.out] at ho
         have n0_ := Y0 (hb)
         have n1_ := Y0 (ho)
         clear HB
         clear HO_6
         have HB := n0_
         have HO216 := n1_
         clear n0_ n1_
         clear ho hb hg hat
         refine hK.out _ _ trivial (fun hHeld => ?_)
         clear hK K
         refine norm_ (a' := ?_) ?_ ?_
         rotate_left
         ·show Act.put _ (some 88) _ = _
          simp only [Act.put, Y14, Y15, Y16, i64_w]
          rfl
         refine pure_ (i := 16) (N := some 6) (v := ?_) (a' := ?_) (sqB 17 131071) rfl rfl (any_of HT_.out (by kernel_rfl)) (fun _ _ _ h => h) (Or.inl ⟨by rfl, ?_⟩) ?_ ?_
         rotate_left
         ·intro w'
          go_simp
          with_reducible rfl
         rotate_left
         ·simp only [Act.put, Y14, Y15, Y16, i64_w]
          rfl
         refine done_ (done_of HT_.out (by kernel_rfl)) ?_
         try go_wp2
         go_roundg kj19
         case measure => have := HK1.out; have := HJ2.out; have := HJ10.out; have := HJ19.out; omega
         case rel => exact ⟨(y214), (wrap64 (x7_1 + 4)), (by first | rfl | (simp; done) | (simp [*]; done)), H', ⟨by have := HK1.out; have := HJ2.out; have := HJ10.out; have := HJ19.out; omega⟩, ⟨by (with_reducible repeat (first | apply Kd.R_alloc | apply Y6 | apply Y7)); exact HO216.out⟩, ⟨by repeat (with_reducible first | exact HB.out | apply Y3 | apply Y1 | apply Y2)⟩⟩
def truffleref06_signed.l0 : Nat → Int → ByteArray → Int → Option (Bool)
 | 0, _, _, _ => none
 | k + 1, x0, x3, x4 => if x4 < (x3.size : Int) then (if 0 ≤ x4 then (if (bt x3 x4) = x0 then (some true) else (truffleref06_signed.l0 k x0 x3 (wrap64 (x4 + 1)))) else (none)) else (some false)
def truffleref06_signed.f (k : Nat) (a0 : Int) : Option (Bool) := truffleref06_signed.l0 k a0 (⟨#[123, 125, 40, 41, 91, 93, 60, 62, 61, 59, 44, 46]⟩ : ByteArray) 0
set_option maxHeartbeats 8000000 in
set_option maxRecDepth 100000 in
theorem truffleref06_signed.calls (k : Nat) (a0 : Int) (r : Bool) (w : World) (h : truffleref06_signed.f k a0 = some r) :
  Calls Tryd.prog 67 #[.int .u8 a0] w fun e w' => e = .returned (.bool r) ∧ Drawn0 w w' := by
 have H : (truffleref06_signed.l0 k a0 (⟨#[123, 125, 40, 41, 91, 93, 60, 62, 61, 59, 44, 46]⟩ : ByteArray) 0) = some r := h
 clear h
 have H' := Y0 H
 clear H
 go_enter Tryd.func67, Tryd.ntmps67
 go_wp2
 go_loopg [4] k (fun kq v4 w' => ∃ (x4_1 : Int), v4 = .int .i64 x4_1 ∧ Aside0 (truffleref06_signed.l0 kq a0 (⟨#[123, 125, 40, 41, 91, 93, 60, 62, 61, 59, 44, 46]⟩ : ByteArray) x4_1 = some r) ∧ Aside0 (kq ≤ k) ∧ Drawn0 w w')
 case atStart => exact ⟨(0), (by first | rfl | (simp; done) | (simp [*]; done)), H', ⟨Nat.le_refl _⟩, by repeat (first | exact Drawn0.refl _ | apply Drawn0.step)⟩
 case round =>
  clear H'
  obtain ⟨x4_1, rfl, HA, HK1, ⟨m1, rfl⟩⟩ := hrel
  cases gk with
  | zero => exact absurd HA.out (by simp [truffleref06_signed.l0])
  | succ k1 =>
   have H := HA.out
   clear HA
   simp only [truffleref06_signed.l0] at H
   by_cases c2 : x4_1 < ((⟨#[123, 125, 40, 41, 91, 93, 60, 62, 61, 59, 44, 46]⟩ : ByteArray).size : Int)
   rotate_left
   ·rw [if_neg c2] at H
    have c2b0 : decide (x4_1 < (12 : Int)) = false := decide_eq_false c2
    clear c2
    obtain rfl := Option.some.inj H
    go_wp2
    go_ret
    exact ⟨by first | rfl | (simp; done) | (simp [*]; done), by repeat (first | exact Drawn0.refl _ | apply Drawn0.step)⟩
   rw [if_pos c2] at H
   have c2b0 : decide (x4_1 < (12 : Int)) = true := decide_eq_true c2
   clear c2
   by_cases c3 : 0 ≤ x4_1
   rotate_left
   ·rw [if_neg c3] at H
    exact absurd H (by simp)
   rw [if_pos c3] at H
   have c3b0 : decide (0 ≤ x4_1) = true := decide_eq_true c3
   clear c3
   by_cases c5 : (bt (⟨#[123, 125, 40, 41, 91, 93, 60, 62, 61, 59, 44, 46]⟩ : ByteArray) x4_1) = a0
   ·rw [if_pos c5] at H
    have c5b0 : ((bt (⟨#[123, 125, 40, 41, 91, 93, 60, 62, 61, 59, 44, 46]⟩ : ByteArray) x4_1) == a0) = true := beq_iff_eq.mpr c5
    have c5b1 : ((bt (⟨#[123, 125, 40, 41, 91, 93, 60, 62, 61, 59, 44, 46]⟩ : ByteArray) x4_1) != a0) = false := bne_eq_false_iff_eq.mpr c5
    clear c5
    obtain rfl := Option.some.inj H
    have p4 : 0 ≤ (x4_1 : Int) := of_decide_eq_true (by first | (with_reducible assumption) | assumption)
    have q4 : x4_1 < (12 : Int) := of_decide_eq_true (by first | (with_reducible assumption) | assumption)
    have hx4 := bt_at (⟨#[123, 125, 40, 41, 91, 93, 60, 62, 61, 59, 44, 46]⟩ : ByteArray) x4_1
    replace p4 := eq_true p4
    replace q4 := eq_true q4
    go_wp2
    go_ret
    exact ⟨by first | rfl | (simp; done) | (simp [*]; done), by repeat (first | exact Drawn0.refl _ | apply Drawn0.step)⟩
   rw [if_neg c5] at H
   have c5b0 : ((bt (⟨#[123, 125, 40, 41, 91, 93, 60, 62, 61, 59, 44, 46]⟩ : ByteArray) x4_1) == a0) = false := beq_eq_false_iff_ne.mpr c5
   have c5b1 : ((bt (⟨#[123, 125, 40, 41, 91, 93, 60, 62, 61, 59, 44, 46]⟩ : ByteArray) x4_1) != a0) = true := bne_iff_ne.mpr c5
   have H' := Y0 H
   clear H
   have p4 : 0 ≤ (x4_1 : Int) := of_decide_eq_true (by first | (with_reducible assumption) | assumption)
   have q4 : x4_1 < (12 : Int) := of_decide_eq_true (by first | (with_reducible assumption) | assumption)
   have hx4 := bt_at (⟨#[123, 125, 40, 41, 91, 93, 60, 62, 61, 59, 44, 46]⟩ : ByteArray) x4_1
   replace p4 := eq_true p4
   replace q4 := eq_true q4
   go_wp2
   go_roundg k1
   case measure => have := HK1.out; omega
   case rel => exact ⟨(wrap64 (x4_1 + 1)), (by first | rfl | (simp; done) | (simp [*]; done)), H', ⟨by have := HK1.out; omega⟩, by repeat (first | exact Drawn0.refl _ | apply Drawn0.step)⟩
mutual
def truffleref06_one.l0 : Nat → ByteArray → Int → Int → Option (Int × ByteArray × Int × Int × Int)
 | 0, _, _, _ => none
 | k + 1, x0, x1, x7 => if x7 < (x0.size : Int) then (if 0 ≤ x7 then ((truffleref06_letter.f (bt x0 x7)).bind fun t225 => (if t225 = true then (truffleref06_one.l0 k x0 x1 (wrap64 (x7 + 1))) else ((truffleref06_digit.f (bt x0 x7)).bind fun t226 => (if t226 = true then (truffleref06_one.l0 k x0 x1 (wrap64 (x7 + 1))) else (if 0 ≤ x1 then (if x1 ≤ x7 then (if x7 ≤ (x0.size : Int) then (some (0, x0.extract (x1 : Int).toNat (x7 : Int).toNat, 0, x1, x7)) else (none)) else (none)) else (none)))))) else (none)) else (if 0 ≤ x1 then (if x1 ≤ x7 then (if x7 ≤ (x0.size : Int) then (some (0, x0.extract (x1 : Int).toNat (x7 : Int).toNat, 0, x1, x7)) else (none)) else (none)) else (none))
def truffleref06_one.j1 : Nat → ByteArray → Int → Int → Int → Bool → Option (Int × ByteArray × Int × Int × Int)
 | 0, _, _, _, _, _ => none
 | k + 1, x0, x1, x6, x7, x49 => if x49 = true then (truffleref06_one.l1 k x0 x1 x7) else (if x6 = 34 then ((truffleref06_text.f k x0 x1).bind fun bt233 => (some (2, bt233.1, 0, x1, bt233.2))) else ((truffleref06_signed.f k x6).bind fun t235 => (if t235 = true then (if 0 ≤ x1 then (if x1 ≤ x7 then (if x7 ≤ (x0.size : Int) then (some (3, x0.extract (x1 : Int).toNat (x7 : Int).toNat, 0, x1, x7)) else (none)) else (none)) else (none)) else (some (0, (⟨#[]⟩ : ByteArray), 0, 0, (-1))))))
def truffleref06_one.l1 : Nat → ByteArray → Int → Int → Option (Int × ByteArray × Int × Int × Int)
 | 0, _, _, _ => none
 | k + 1, x0, x1, x7 => if x7 < (x0.size : Int) then (if 0 ≤ x7 then ((truffleref06_digit.f (bt x0 x7)).bind fun t228 => (if t228 = true then (truffleref06_one.l1 k x0 x1 (wrap64 (x7 + 1))) else (if 0 ≤ x1 then (if x1 ≤ x7 then (if x7 ≤ (x0.size : Int) then ((truffleref06_number.f k (x0.extract (x1 : Int).toNat (x7 : Int).toNat)).bind fun bt229 => (if bt229.2 = true then (some (1, x0.extract (x1 : Int).toNat (x7 : Int).toNat, bt229.1, x1, x7)) else (some (0, (⟨#[]⟩ : ByteArray), 0, 0, (-1))))) else (none)) else (none)) else (none)))) else (none)) else (if 0 ≤ x1 then (if x1 ≤ x7 then (if x7 ≤ (x0.size : Int) then ((truffleref06_number.f k (x0.extract (x1 : Int).toNat (x7 : Int).toNat)).bind fun bt231 => (if bt231.2 = true then (some (1, x0.extract (x1 : Int).toNat (x7 : Int).toNat, bt231.1, x1, x7)) else (some (0, (⟨#[]⟩ : ByteArray), 0, 0, (-1))))) else (none)) else (none)) else (none))
end
def truffleref06_one.f (k : Nat) (a0 : ByteArray) (a1 : Int) : Option (Int × ByteArray × Int × Int × Int) := if 0 ≤ a1 then (if a1 < (a0.size : Int) then ((truffleref06_letter.f (bt a0 a1)).bind fun t224 => (if t224 = true then (truffleref06_one.l0 k a0 a1 (wrap64 (a1 + 1))) else ((truffleref06_digit.f (bt a0 a1)).bind fun t227 => (if t227 = true then (truffleref06_one.j1 k a0 a1 (bt a0 a1) (wrap64 (a1 + 1)) true) else (truffleref06_one.j1 k a0 a1 (bt a0 a1) (wrap64 (a1 + 1)) ((bt a0 a1) == 45)))))) else (none)) else (none)
set_option maxHeartbeats 8000000 in
set_option maxRecDepth 100000 in
theorem truffleref06_one.calls (k : Nat) (a0 : ByteArray) (a1 : Int) (r1 : Int) (r2 : ByteArray) (r3 : Int) (r4 : Int) (r5 : Int) (w : World) (h : truffleref06_one.f k a0 a1 = some (r1, r2, r3, r4, r5)) :
  Calls Tryd.prog 40 #[.string a0, .int .i64 a1] w fun e w' => e = .returned (.tuple #[.agg #[.int .i64 r1, .string r2, .int .i64 r3, .int .i64 r4], .int .i64 r5]) ∧ Below w.heap.size w w' := by
 have hu29 := Tryd.underlying29
 have HB := Y0 (Below.refl w.heap.size w)
 have H : (if 0 ≤ a1 then (if a1 < (a0.size : Int) then ((truffleref06_letter.f (bt a0 a1)).bind fun t224 => (if t224 = true then (truffleref06_one.l0 k a0 a1 (wrap64 (a1 + 1))) else ((truffleref06_digit.f (bt a0 a1)).bind fun t227 => (if t227 = true then (truffleref06_one.j1 k a0 a1 (bt a0 a1) (wrap64 (a1 + 1)) true) else (truffleref06_one.j1 k a0 a1 (bt a0 a1) (wrap64 (a1 + 1)) ((bt a0 a1) == 45)))))) else (none)) else (none)) = some (r1, r2, r3, r4, r5) := h
 clear h
 by_cases c3 : 0 ≤ a1
 rotate_left
 ·rw [if_neg c3] at H
  exact absurd H (by simp)
 rw [if_pos c3] at H
 have c3b0 : decide (0 ≤ a1) = true := decide_eq_true c3
 clear c3
 by_cases c4 : a1 < (a0.size : Int)
 rotate_left
 ·rw [if_neg c4] at H
  exact absurd H (by simp)
 rw [if_pos c4] at H
 have c4b0 : decide (a1 < (a0.size : Int)) = true := decide_eq_true c4
 clear c4
 replace H := Y17.mp H
 obtain ⟨t224, A60, H⟩ := H
 replace H : (if t224 = true then (truffleref06_one.l0 k a0 a1 (wrap64 (a1 + 1))) else ((truffleref06_digit.f (bt a0 a1)).bind fun t227 => (if t227 = true then (truffleref06_one.j1 k a0 a1 (bt a0 a1) (wrap64 (a1 + 1)) true) else (truffleref06_one.j1 k a0 a1 (bt a0 a1) (wrap64 (a1 + 1)) ((bt a0 a1) == 45))))) = some (r1, r2, r3, r4, r5) := H
 have A6 := Y0 A60
 clear A60
 by_cases c7 : t224 = true
 ·subst c7
  have H1 : (truffleref06_one.l0 k a0 a1 (wrap64 (a1 + 1))) = some (r1, r2, r3, r4, r5) := by first | (rw [if_pos rfl] at H; exact H) | rfl
  clear H
  have H := H1
  clear H1
  have H' := Y0 H
  clear H
  go_enter Tryd.func40, Tryd.ntmps40
  go_wp2_with (first | ((with_reducible refine gate_dst (N := 4) rfl ?_); refine box_event ?hg (N := 4) ?hd (cs := #[.int .i64 0, .string (⟨#[]⟩ : ByteArray), .int .i64 0, .int .i64 0]) (t := 29) ?hr ?_; (case hd => rfl); (case hg => rfl); (case hr => first | (go_simp; done) | (go_simp; rfl)); intro gb223 hg w8 hbox hb; have n0_ := Y0 (below_step (by repeat (with_reducible first | exact HB.out | apply Y3 | apply Y1 | apply Y2)) hb); have n1_ := Y0 (hbox); have n2_ := Y0 ((by rw [hg]; exact (below_size (by repeat (with_reducible first | exact HB.out | apply Y3 | apply Y1 | apply Y2))) : w.heap.size ≤ gb223)); have n3_ := Y0 ((by rw [hg]; exact (below_size (by repeat (with_reducible first | exact HB.out | apply Y3 | apply Y1 | apply Y2))) : w.heap.size ≤ gb223)); clear HB; have HB := n0_; have BK223 := n1_; have GW223 := n2_; have GE223 := n3_; clear n0_ n1_ n2_ n3_; clear hb hbox hg; have p5 : 0 ≤ (a1 : Int) := of_decide_eq_true (by first | (with_reducible assumption) | assumption); have q5 : a1 < (a0.size : Int) := of_decide_eq_true (by first | (with_reducible assumption) | assumption); have hx5 := bt_at a0 a1; replace p5 := eq_true p5; replace q5 := eq_true q5) | ((with_reducible refine gate_callee (f := 63) rfl ?_); refine goesL_ (some 18) rfl rfl Tryd.func63 (by kernel_rfl) rfl #[.int .u8 (bt a0 a1)] rfl (by (try simp only [List.map_toArray, List.map_cons, List.map_nil]); first | done | rfl | (simp only [List.length_drop, List.length_take]; rfl)) ?_; (with_reducible refine (truffleref06_letter.calls (bt a0 a1) true _ A6.out).mono ?_); rintro e w' ⟨rfl, ⟨nd, rfl⟩⟩; refine ⟨_, rfl, ?_⟩))
  try go_simp
  go_loopg [7] k (fun kq v7 w' => ∃ (x7_1 : Int), v7 = .int .i64 x7_1 ∧ Aside0 (truffleref06_one.l0 kq a0 a1 x7_1 = some (r1, r2, r3, r4, r5)) ∧ Aside0 (kq ≤ k) ∧ Aside0 (w'.heap[gb223]? = some (.cells #[.int .i64 0, .string (⟨#[]⟩ : ByteArray), .int .i64 0, .int .i64 0] 29 (0, 0))) ∧ Aside0 (Below w.heap.size w w'))
  case atStart => exact ⟨(wrap64 (a1 + 1)), (by first | rfl | (simp; done) | (simp [*]; done)), H', ⟨Nat.le_refl _⟩, ⟨by (with_reducible repeat first | apply Y11 | apply Y13 | apply Y12); exact BK223.out⟩, ⟨by repeat (with_reducible first | exact HB.out | apply Y3 | apply Y1 | apply Y2 | refine Y4 ?_ GE223.out)⟩⟩
  case round =>
   clear H'
   obtain ⟨x7_1, rfl, HA, HK1, BK223, HB⟩ := hrel
   cases gk with
   | zero => exact absurd HA.out (by simp [truffleref06_one.l0])
   | succ k1 =>
    have H := HA.out
    clear HA
    simp only [truffleref06_one.l0] at H
    by_cases c9 : x7_1 < (a0.size : Int)
    rotate_left
    ·rw [if_neg c9] at H
     have c9b0 : decide (x7_1 < (a0.size : Int)) = false := decide_eq_false c9
     clear c9
     by_cases c21 : 0 ≤ a1
     rotate_left
     ·rw [if_neg c21] at H
      exact absurd H (by simp)
     rw [if_pos c21] at H
     have c21b0 := eq_true c21
     have c21b1 : decide (0 ≤ a1) = true := decide_eq_true c21
     clear c21
     by_cases c22 : a1 ≤ x7_1
     rotate_left
     ·rw [if_neg c22] at H
      exact absurd H (by simp)
     rw [if_pos c22] at H
     have c22b0 := eq_true c22
     have c22b1 : decide (a1 ≤ x7_1) = true := decide_eq_true c22
     clear c22
     by_cases c23 : x7_1 ≤ (a0.size : Int)
     rotate_left
     ·rw [if_neg c23] at H
      exact absurd H (by simp)
     rw [if_pos c23] at H
     have c23b0 := eq_true c23
     have c23b1 : decide (x7_1 ≤ (a0.size : Int)) = true := decide_eq_true c23
     clear c23
     simp only [Option.some.injEq, Prod.mk.injEq] at H
     obtain ⟨rfl, rfl, rfl, rfl, rfl⟩ := H
     have ⟨hcz24_0, hcz24_1, hcz24_2, hcz24_3, hfz24_0, hfz24_1, hfz24_2, hfz24_3⟩ := sq_box4 BK223.out
     go_wp2
     refine bodyPost_ret (results_ct rfl _ _ gb223 29 #[.int .i64 0, .string (a0.extract (a1 : Int).toNat (x7_1 : Int).toNat), .int .i64 0, .int .i64 a1] (0, 0) _ rfl (by (with_reducible repeat first | apply Y11 | apply Y13 | apply Y12); refine blk_put (cs := #[.int .i64 0, .string (a0.extract (a1 : Int).toNat (x7_1 : Int).toNat), .int .i64 0, .int .i64 0]) ?_ 3 _ rfl; (with_reducible repeat first | apply Y11 | apply Y13 | apply Y12); refine blk_put (cs := #[.int .i64 0, .string (a0.extract (a1 : Int).toNat (x7_1 : Int).toNat), .int .i64 0, .int .i64 0]) ?_ 2 _ rfl; (with_reducible repeat first | apply Y11 | apply Y13 | apply Y12); refine blk_put (cs := #[.int .i64 0, .string (⟨#[]⟩ : ByteArray), .int .i64 0, .int .i64 0]) ?_ 1 _ rfl; (with_reducible repeat first | apply Y11 | apply Y13 | apply Y12); refine blk_put (cs := #[.int .i64 0, .string (⟨#[]⟩ : ByteArray), .int .i64 0, .int .i64 0]) ?_ 0 _ rfl; (with_reducible repeat first | apply Y11 | apply Y13 | apply Y12); exact BK223.out) Tryd.underlying29 rfl (by kernel_rfl)) rfl ?_
     exact ⟨by first | rfl | (simp [] <;> rfl) | (simp [*] <;> rfl), by repeat (with_reducible first | exact HB.out | apply Y3 | apply Y1 | apply Y2 | refine Y4 ?_ GE223.out)⟩
    rw [if_pos c9] at H
    have c9b0 : decide (x7_1 < (a0.size : Int)) = true := decide_eq_true c9
    clear c9
    by_cases c10 : 0 ≤ x7_1
    rotate_left
    ·rw [if_neg c10] at H
     exact absurd H (by simp)
    rw [if_pos c10] at H
    have c10b0 : decide (0 ≤ x7_1) = true := decide_eq_true c10
    clear c10
    replace H := Y17.mp H
    obtain ⟨t225, A120, H⟩ := H
    replace H : (if t225 = true then (truffleref06_one.l0 k1 a0 a1 (wrap64 (x7_1 + 1))) else ((truffleref06_digit.f (bt a0 x7_1)).bind fun t226 => (if t226 = true then (truffleref06_one.l0 k1 a0 a1 (wrap64 (x7_1 + 1))) else (if 0 ≤ a1 then (if a1 ≤ x7_1 then (if x7_1 ≤ (a0.size : Int) then (some (0, a0.extract (a1 : Int).toNat (x7_1 : Int).toNat, 0, a1, x7_1)) else (none)) else (none)) else (none))))) = some (r1, r2, r3, r4, r5) := H
    have A12 := Y0 A120
    clear A120
    by_cases c13 : t225 = true
    ·subst c13
     have H1 : (truffleref06_one.l0 k1 a0 a1 (wrap64 (x7_1 + 1))) = some (r1, r2, r3, r4, r5) := by first | (rw [if_pos rfl] at H; exact H) | rfl
     clear H
     have H := H1
     clear H1
     have H' := Y0 H
     clear H
     have p11 : 0 ≤ (x7_1 : Int) := of_decide_eq_true (by first | (with_reducible assumption) | assumption)
     have q11 : x7_1 < (a0.size : Int) := of_decide_eq_true (by first | (with_reducible assumption) | assumption)
     have hx11 := bt_at a0 x7_1
     replace p11 := eq_true p11
     replace q11 := eq_true q11
     go_wp2_with (first | (go_at_call 63; (with_reducible refine (truffleref06_letter.calls (bt a0 x7_1) true _ A12.out).mono ?_); rintro e w' ⟨rfl, ⟨nd, rfl⟩⟩))
     go_roundg k1
     case measure => have := HK1.out; omega
     case rel => exact ⟨(wrap64 (x7_1 + 1)), (by first | rfl | (simp; done) | (simp [*]; done)), H', ⟨by have := HK1.out; omega⟩, ⟨by (with_reducible repeat first | apply Y11 | apply Y13 | apply Y12); exact BK223.out⟩, ⟨by repeat (with_reducible first | exact HB.out | apply Y3 | apply Y1 | apply Y2 | refine Y4 ?_ GE223.out)⟩⟩
    replace c13 := Bool.eq_false_iff.mpr c13
    subst c13
    have H1 : ((truffleref06_digit.f (bt a0 x7_1)).bind fun t226 => (if t226 = true then (truffleref06_one.l0 k1 a0 a1 (wrap64 (x7_1 + 1))) else (if 0 ≤ a1 then (if a1 ≤ x7_1 then (if x7_1 ≤ (a0.size : Int) then (some (0, a0.extract (a1 : Int).toNat (x7_1 : Int).toNat, 0, a1, x7_1)) else (none)) else (none)) else (none)))) = some (r1, r2, r3, r4, r5) := by first | (rw [if_neg (show ¬ (false = true) by decide)] at H; exact H) | rfl
    clear H
    have H := H1
    clear H1
    replace H := Y17.mp H
    obtain ⟨t226, A150, H⟩ := H
    replace H : (if t226 = true then (truffleref06_one.l0 k1 a0 a1 (wrap64 (x7_1 + 1))) else (if 0 ≤ a1 then (if a1 ≤ x7_1 then (if x7_1 ≤ (a0.size : Int) then (some (0, a0.extract (a1 : Int).toNat (x7_1 : Int).toNat, 0, a1, x7_1)) else (none)) else (none)) else (none))) = some (r1, r2, r3, r4, r5) := H
    have A15 := Y0 A150
    clear A150
    by_cases c16 : t226 = true
    ·subst c16
     have H1 : (truffleref06_one.l0 k1 a0 a1 (wrap64 (x7_1 + 1))) = some (r1, r2, r3, r4, r5) := by first | (rw [if_pos rfl] at H; exact H) | rfl
     clear H
     have H := H1
     clear H1
     have H' := Y0 H
     clear H
     have p11 : 0 ≤ (x7_1 : Int) := of_decide_eq_true (by first | (with_reducible assumption) | assumption)
     have q11 : x7_1 < (a0.size : Int) := of_decide_eq_true (by first | (with_reducible assumption) | assumption)
     have hx11 := bt_at a0 x7_1
     replace p11 := eq_true p11
     replace q11 := eq_true q11
     go_wp2_with (first | (go_at_call 63; (with_reducible refine (truffleref06_letter.calls (bt a0 x7_1) false _ A12.out).mono ?_); rintro e w' ⟨rfl, ⟨nd, rfl⟩⟩; have p14 : 0 ≤ (x7_1 : Int) := of_decide_eq_true (by first | (with_reducible assumption) | assumption); have q14 : x7_1 < (a0.size : Int) := of_decide_eq_true (by first | (with_reducible assumption) | assumption); have hx14 := bt_at a0 x7_1; replace p14 := eq_true p14; replace q14 := eq_true q14) | (go_at_call 64; (with_reducible refine (truffleref06_digit.calls (bt a0 x7_1) true _ A15.out).mono ?_); rintro e w' ⟨rfl, ⟨nd, rfl⟩⟩))
     go_roundg k1
     case measure => have := HK1.out; omega
     case rel => exact ⟨(wrap64 (x7_1 + 1)), (by first | rfl | (simp; done) | (simp [*]; done)), H', ⟨by have := HK1.out; omega⟩, ⟨by (with_reducible repeat first | apply Y11 | apply Y13 | apply Y12); exact BK223.out⟩, ⟨by repeat (with_reducible first | exact HB.out | apply Y3 | apply Y1 | apply Y2 | refine Y4 ?_ GE223.out)⟩⟩
    replace c16 := Bool.eq_false_iff.mpr c16
    subst c16
    have H1 : (if 0 ≤ a1 then (if a1 ≤ x7_1 then (if x7_1 ≤ (a0.size : Int) then (some (0, a0.extract (a1 : Int).toNat (x7_1 : Int).toNat, 0, a1, x7_1)) else (none)) else (none)) else (none)) = some (r1, r2, r3, r4, r5) := by first | (rw [if_neg (show ¬ (false = true) by decide)] at H; exact H) | rfl
    clear H
    have H := H1
    clear H1
    by_cases c17 : 0 ≤ a1
    rotate_left
    ·rw [if_neg c17] at H
     exact absurd H (by simp)
    rw [if_pos c17] at H
    have c17b0 := eq_true c17
    have c17b1 : decide (0 ≤ a1) = true := decide_eq_true c17
    clear c17
    by_cases c18 : a1 ≤ x7_1
    rotate_left
    ·rw [if_neg c18] at H
     exact absurd H (by simp)
    rw [if_pos c18] at H
    have c18b0 := eq_true c18
    have c18b1 : decide (a1 ≤ x7_1) = true := decide_eq_true c18
    clear c18
    by_cases c19 : x7_1 ≤ (a0.size : Int)
    rotate_left
    ·rw [if_neg c19] at H
     exact absurd H (by simp)
    rw [if_pos c19] at H
    have c19b0 := eq_true c19
    have c19b1 : decide (x7_1 ≤ (a0.size : Int)) = true := decide_eq_true c19
    clear c19
    simp only [Option.some.injEq, Prod.mk.injEq] at H
    obtain ⟨rfl, rfl, rfl, rfl, rfl⟩ := H
    have p11 : 0 ≤ (x7_1 : Int) := of_decide_eq_true (by first | (with_reducible assumption) | assumption)
    have q11 : x7_1 < (a0.size : Int) := of_decide_eq_true (by first | (with_reducible assumption) | assumption)
    have hx11 := bt_at a0 x7_1
    replace p11 := eq_true p11
    replace q11 := eq_true q11
    go_wp2_with (first | (go_at_call 63; (with_reducible refine (truffleref06_letter.calls (bt a0 x7_1) false _ A12.out).mono ?_); rintro e w' ⟨rfl, ⟨nd, rfl⟩⟩; (try (rw [drewN_self wr]; generalize hq_ : World.drewN wr _ = wr; have n0_ : Aside0 (wr.heap[gb223]? = some (.cells #[.int .i64 0, .string (⟨#[]⟩ : ByteArray), .int .i64 0, .int .i64 0] 29 (0, 0))) := ⟨by rw [← hq_]; exact (by (with_reducible repeat first | apply Y11 | apply Y13 | apply Y12); exact BK223.out)⟩; have n1_ : Aside0 (Below w.heap.size w wr) := ⟨by rw [← hq_]; exact (by repeat (with_reducible first | exact HB.out | apply Y3 | apply Y1 | apply Y2 | refine Y4 ?_ GE223.out))⟩; clear BK223 HB hq_; have BK223 := n0_; have HB := n1_; clear n0_ n1_)); have p14 : 0 ≤ (x7_1 : Int) := of_decide_eq_true (by first | (with_reducible assumption) | assumption); have q14 : x7_1 < (a0.size : Int) := of_decide_eq_true (by first | (with_reducible assumption) | assumption); have hx14 := bt_at a0 x7_1; replace p14 := eq_true p14; replace q14 := eq_true q14) | (go_at_call 64; (with_reducible refine (truffleref06_digit.calls (bt a0 x7_1) false _ A15.out).mono ?_); rintro e w' ⟨rfl, ⟨nd, rfl⟩⟩; (try (rw [drewN_self wr]; generalize hq_ : World.drewN wr _ = wr; have n0_ : Aside0 (wr.heap[gb223]? = some (.cells #[.int .i64 0, .string (⟨#[]⟩ : ByteArray), .int .i64 0, .int .i64 0] 29 (0, 0))) := ⟨by rw [← hq_]; exact (by (with_reducible repeat first | apply Y11 | apply Y13 | apply Y12); exact BK223.out)⟩; have n1_ : Aside0 (Below w.heap.size w wr) := ⟨by rw [← hq_]; exact (by repeat (with_reducible first | exact HB.out | apply Y3 | apply Y1 | apply Y2 | refine Y4 ?_ GE223.out))⟩; clear BK223 HB hq_; have BK223 := n0_; have HB := n1_; clear n0_ n1_)); have ⟨hcz20_0, hcz20_1, hcz20_2, hcz20_3, hfz20_0, hfz20_1, hfz20_2, hfz20_3⟩ := sq_box4 BK223.out))
    refine bodyPost_ret (results_ct rfl _ _ gb223 29 #[.int .i64 0, .string (a0.extract (a1 : Int).toNat (x7_1 : Int).toNat), .int .i64 0, .int .i64 a1] (0, 0) _ rfl (by (with_reducible repeat first | apply Y11 | apply Y13 | apply Y12); refine blk_put (cs := #[.int .i64 0, .string (a0.extract (a1 : Int).toNat (x7_1 : Int).toNat), .int .i64 0, .int .i64 0]) ?_ 3 _ rfl; (with_reducible repeat first | apply Y11 | apply Y13 | apply Y12); refine blk_put (cs := #[.int .i64 0, .string (a0.extract (a1 : Int).toNat (x7_1 : Int).toNat), .int .i64 0, .int .i64 0]) ?_ 2 _ rfl; (with_reducible repeat first | apply Y11 | apply Y13 | apply Y12); refine blk_put (cs := #[.int .i64 0, .string (⟨#[]⟩ : ByteArray), .int .i64 0, .int .i64 0]) ?_ 1 _ rfl; (with_reducible repeat first | apply Y11 | apply Y13 | apply Y12); refine blk_put (cs := #[.int .i64 0, .string (⟨#[]⟩ : ByteArray), .int .i64 0, .int .i64 0]) ?_ 0 _ rfl; (with_reducible repeat first | apply Y11 | apply Y13 | apply Y12); exact BK223.out) Tryd.underlying29 rfl (by kernel_rfl)) rfl ?_
    exact ⟨by first | rfl | (simp [] <;> rfl) | (simp [*] <;> rfl), by repeat (with_reducible first | exact HB.out | apply Y3 | apply Y1 | apply Y2 | refine Y4 ?_ GE223.out)⟩
 replace c7 := Bool.eq_false_iff.mpr c7
 subst c7
 have H1 : ((truffleref06_digit.f (bt a0 a1)).bind fun t227 => (if t227 = true then (truffleref06_one.j1 k a0 a1 (bt a0 a1) (wrap64 (a1 + 1)) true) else (truffleref06_one.j1 k a0 a1 (bt a0 a1) (wrap64 (a1 + 1)) ((bt a0 a1) == 45)))) = some (r1, r2, r3, r4, r5) := by first | (rw [if_neg (show ¬ (false = true) by decide)] at H; exact H) | rfl
 clear H
 have H := H1
 clear H1
 have HC25 := Y0 H
 clear H
 go_enter Tryd.func40, Tryd.ntmps40
 go_upto_region 7 with (first | ((with_reducible refine gate_dst (N := 4) rfl ?_); refine box_event ?hg (N := 4) ?hd (cs := #[.int .i64 0, .string (⟨#[]⟩ : ByteArray), .int .i64 0, .int .i64 0]) (t := 29) ?hr ?_; (case hd => rfl); (case hg => rfl); (case hr => first | (go_simp; done) | (go_simp; rfl)); intro gb223 hg w26 hbox hb; have n0_ := Y0 (below_step (by repeat (with_reducible first | exact HB.out | apply Y3 | apply Y1 | apply Y2)) hb); have n1_ := Y0 (hbox); have n2_ := Y0 ((by rw [hg]; exact (below_size (by repeat (with_reducible first | exact HB.out | apply Y3 | apply Y1 | apply Y2))) : w.heap.size ≤ gb223)); have n3_ := Y0 ((by rw [hg]; exact (below_size (by repeat (with_reducible first | exact HB.out | apply Y3 | apply Y1 | apply Y2))) : w.heap.size ≤ gb223)); clear HB; have HB := n0_; have BK223 := n1_; have GW223 := n2_; have GE223 := n3_; clear n0_ n1_ n2_ n3_; clear hb hbox hg; have p5 : 0 ≤ (a1 : Int) := of_decide_eq_true (by first | (with_reducible assumption) | assumption); have q5 : a1 < (a0.size : Int) := of_decide_eq_true (by first | (with_reducible assumption) | assumption); have hx5 := bt_at a0 a1; replace p5 := eq_true p5; replace q5 := eq_true q5) | ((with_reducible refine gate_callee (f := 63) rfl ?_); refine goesL_ (some 18) rfl rfl Tryd.func63 (by kernel_rfl) rfl #[.int .u8 (bt a0 a1)] rfl (by (try simp only [List.map_toArray, List.map_cons, List.map_nil]); first | done | rfl | (simp only [List.length_drop, List.length_take]; rfl)) ?_; (with_reducible refine (truffleref06_letter.calls (bt a0 a1) false _ A6.out).mono ?_); rintro e w' ⟨rfl, ⟨nd, rfl⟩⟩; refine ⟨_, rfl, ?_⟩))
 (try simp only [Act.put, Y14, Y15, Y16])
 go_cut [49] (fun v49 wc => ∃ (kq : Nat) (x49_24 : Bool), v49 = .bool x49_24 ∧ Aside0 (truffleref06_one.j1 kq a0 a1 (bt a0 a1) (wrap64 (a1 + 1)) x49_24 = some (r1, r2, r3, r4, r5)) ∧ Aside0 (kq ≤ k) ∧ Aside0 (wc.heap[gb223]? = some (.cells #[.int .i64 0, .string (⟨#[]⟩ : ByteArray), .int .i64 0, .int .i64 0] 29 (0, 0))) ∧ Aside0 (Below w.heap.size w wc))
 case first =>
  have H := HC25.out
  clear HC25
  replace H := Y17.mp H
  obtain ⟨t227, A270, H⟩ := H
  replace H : (if t227 = true then (truffleref06_one.j1 k a0 a1 (bt a0 a1) (wrap64 (a1 + 1)) true) else (truffleref06_one.j1 k a0 a1 (bt a0 a1) (wrap64 (a1 + 1)) ((bt a0 a1) == 45))) = some (r1, r2, r3, r4, r5) := H
  have A27 := Y0 A270
  clear A270
  by_cases c28 : t227 = true
  ·subst c28
   have H1 : (truffleref06_one.j1 k a0 a1 (bt a0 a1) (wrap64 (a1 + 1)) true) = some (r1, r2, r3, r4, r5) := by first | (rw [if_pos rfl] at H; exact H) | rfl
   clear H
   have H := H1
   clear H1
   have H' := Y0 H
   clear H
   go_wp2_with (first | ((with_reducible refine gate_callee (f := 64) rfl ?_); refine goesL_ (some 45) rfl rfl Tryd.func64 (by kernel_rfl) rfl #[.int .u8 (bt a0 a1)] rfl (by (try simp only [List.map_toArray, List.map_cons, List.map_nil]); first | done | rfl | (simp only [List.length_drop, List.length_take]; rfl)) ?_; (with_reducible refine (truffleref06_digit.calls (bt a0 a1) true _ A27.out).mono ?_); rintro e w' ⟨rfl, ⟨nd, rfl⟩⟩; refine ⟨_, rfl, ?_⟩))
   go_meet
   case rel => exact ⟨_, (true), (by first | rfl | (simp; done) | (simp [*]; done)), H', ⟨by first | omega | exact Nat.le_refl _⟩, ⟨by (with_reducible repeat first | apply Y11 | apply Y13 | apply Y12); exact BK223.out⟩, ⟨by repeat (with_reducible first | exact HB.out | apply Y3 | apply Y1 | apply Y2 | refine Y4 ?_ GE223.out)⟩⟩
  replace c28 := Bool.eq_false_iff.mpr c28
  subst c28
  have H1 : (truffleref06_one.j1 k a0 a1 (bt a0 a1) (wrap64 (a1 + 1)) ((bt a0 a1) == 45)) = some (r1, r2, r3, r4, r5) := by first | (rw [if_neg (show ¬ (false = true) by decide)] at H; exact H) | rfl
  clear H
  have H := H1
  clear H1
  have H' := Y0 H
  clear H
  go_wp2_with (first | ((with_reducible refine gate_callee (f := 64) rfl ?_); refine goesL_ (some 45) rfl rfl Tryd.func64 (by kernel_rfl) rfl #[.int .u8 (bt a0 a1)] rfl (by (try simp only [List.map_toArray, List.map_cons, List.map_nil]); first | done | rfl | (simp only [List.length_drop, List.length_take]; rfl)) ?_; (with_reducible refine (truffleref06_digit.calls (bt a0 a1) false _ A27.out).mono ?_); rintro e w' ⟨rfl, ⟨nd, rfl⟩⟩; refine ⟨_, rfl, ?_⟩))
  go_meet
  case rel => exact ⟨_, (((bt a0 a1) == 45)), (by first | rfl | (simp; done) | (simp [*]; done)), H', ⟨by first | omega | exact Nat.le_refl _⟩, ⟨by (with_reducible repeat first | apply Y11 | apply Y13 | apply Y12); exact BK223.out⟩, ⟨by repeat (with_reducible first | exact HB.out | apply Y3 | apply Y1 | apply Y2 | refine Y4 ?_ GE223.out)⟩⟩
 case rest =>
  clear HC25
  obtain ⟨kq, x49_24, rfl, HA, HJ24, BK223, HB⟩ := hcut
  cases kq with
  | zero => exact absurd HA.out (by simp [truffleref06_one.j1])
  | succ kj24 =>
   have H := HA.out
   clear HA
   simp only [truffleref06_one.j1] at H
   by_cases c29 : x49_24 = true
   rotate_left
   ·replace c29 := Bool.eq_false_iff.mpr c29
    subst c29
    have H1 : (if (bt a0 a1) = 34 then ((truffleref06_text.f kj24 a0 a1).bind fun bt233 => (some (2, bt233.1, 0, a1, bt233.2))) else ((truffleref06_signed.f kj24 (bt a0 a1)).bind fun t235 => (if t235 = true then (if 0 ≤ a1 then (if a1 ≤ (wrap64 (a1 + 1)) then (if (wrap64 (a1 + 1)) ≤ (a0.size : Int) then (some (3, a0.extract (a1 : Int).toNat ((wrap64 (a1 + 1)) : Int).toNat, 0, a1, (wrap64 (a1 + 1)))) else (none)) else (none)) else (none)) else (some (0, (⟨#[]⟩ : ByteArray), 0, 0, (-1)))))) = some (r1, r2, r3, r4, r5) := by first | (rw [if_neg (show ¬ (false = true) by decide)] at H; exact H) | rfl
    clear H
    have H := H1
    clear H1
    by_cases c55 : (bt a0 a1) = 34
    ·rw [if_pos c55] at H
     have c55b0 : ((bt a0 a1) == 34) = true := beq_iff_eq.mpr c55
     have c55b1 : ((bt a0 a1) != 34) = false := bne_eq_false_iff_eq.mpr c55
     clear c55
     replace H := Y17.mp H
     obtain ⟨⟨t233, t234⟩, A560, H⟩ := H
     replace H : (some (2, t233, 0, a1, t234)) = some (r1, r2, r3, r4, r5) := H
     have A56 := Y0 A560
     clear A560
     simp only [Option.some.injEq, Prod.mk.injEq] at H
     obtain ⟨rfl, rfl, rfl, rfl, rfl⟩ := H
     go_wp2_with (first | ((with_reducible refine gate_callee (f := 66) rfl ?_); refine goesL_ (some 86) rfl rfl Tryd.func66 (by kernel_rfl) rfl #[.string a0, .int .i64 a1] rfl (by (try simp only [List.map_toArray, List.map_cons, List.map_nil]); first | done | rfl | (simp only [List.length_drop, List.length_take]; rfl)) ?_; (with_reducible refine (truffleref06_text.calls kj24 a0 a1 t233 t234 _ A56.out).mono ?_); rintro e w57 ⟨rfl, hb⟩; refine ⟨_, rfl, ?_⟩; have n0_ := Y0 (blk_below (g := gb223) (o := .cells #[.int .i64 0, .string (⟨#[]⟩ : ByteArray), .int .i64 0, .int .i64 0] 29 (0, 0)) (by (with_reducible repeat first | apply Y11 | apply Y13 | apply Y12); exact BK223.out) hb); have n1_ := Y0 (below_step (by repeat (with_reducible first | exact HB.out | apply Y3 | apply Y1 | apply Y2 | refine Y4 ?_ GE223.out)) hb); clear BK223; clear HB; have BK223 := n0_; have HB := n1_; clear n0_ n1_; (try clear hb); (try clear hb2); (try clear hk); (try clear hi); have ⟨hcz58_0, hcz58_1, hcz58_2, hcz58_3, hfz58_0, hfz58_1, hfz58_2, hfz58_3⟩ := sq_box4 BK223.out))
     refine bodyPost_ret (results_ct rfl _ _ gb223 29 #[.int .i64 2, .string t233, .int .i64 0, .int .i64 a1] (0, 0) _ rfl (by (with_reducible repeat first | apply Y11 | apply Y13 | apply Y12); refine blk_put (cs := #[.int .i64 2, .string t233, .int .i64 0, .int .i64 0]) ?_ 3 _ rfl; (with_reducible repeat first | apply Y11 | apply Y13 | apply Y12); refine blk_put (cs := #[.int .i64 2, .string t233, .int .i64 0, .int .i64 0]) ?_ 2 _ rfl; (with_reducible repeat first | apply Y11 | apply Y13 | apply Y12); refine blk_put (cs := #[.int .i64 2, .string (⟨#[]⟩ : ByteArray), .int .i64 0, .int .i64 0]) ?_ 1 _ rfl; (with_reducible repeat first | apply Y11 | apply Y13 | apply Y12); refine blk_put (cs := #[.int .i64 0, .string (⟨#[]⟩ : ByteArray), .int .i64 0, .int .i64 0]) ?_ 0 _ rfl; (with_reducible repeat first | apply Y11 | apply Y13 | apply Y12); exact BK223.out) Tryd.underlying29 rfl (by kernel_rfl)) rfl ?_
     exact ⟨by first | rfl | (simp [] <;> rfl) | (simp [*] <;> rfl), by repeat (with_reducible first | exact HB.out | apply Y3 | apply Y1 | apply Y2 | refine Y4 ?_ GE223.out)⟩
    rw [if_neg c55] at H
    have c55b0 : ((bt a0 a1) == 34) = false := beq_eq_false_iff_ne.mpr c55
    have c55b1 : ((bt a0 a1) != 34) = true := bne_iff_ne.mpr c55
    replace H := Y17.mp H
    obtain ⟨t235, A590, H⟩ := H
    replace H : (if t235 = true then (if 0 ≤ a1 then (if a1 ≤ (wrap64 (a1 + 1)) then (if (wrap64 (a1 + 1)) ≤ (a0.size : Int) then (some (3, a0.extract (a1 : Int).toNat ((wrap64 (a1 + 1)) : Int).toNat, 0, a1, (wrap64 (a1 + 1)))) else (none)) else (none)) else (none)) else (some (0, (⟨#[]⟩ : ByteArray), 0, 0, (-1)))) = some (r1, r2, r3, r4, r5) := H
    have A59 := Y0 A590
    clear A590
    by_cases c60 : t235 = true
    rotate_left
    ·replace c60 := Bool.eq_false_iff.mpr c60
     subst c60
     have H1 : (some (0, (⟨#[]⟩ : ByteArray), 0, 0, (-1))) = some (r1, r2, r3, r4, r5) := by first | (rw [if_neg (show ¬ (false = true) by decide)] at H; exact H) | rfl
     clear H
     have H := H1
     clear H1
     simp only [Option.some.injEq, Prod.mk.injEq] at H
     obtain ⟨rfl, rfl, rfl, rfl, rfl⟩ := H
     go_wp2_with (first | ((with_reducible refine gate_callee (f := 67) rfl ?_); refine goesL_ (some 94) rfl rfl Tryd.func67 (by kernel_rfl) rfl #[.int .u8 (bt a0 a1)] rfl (by (try simp only [List.map_toArray, List.map_cons, List.map_nil]); first | done | rfl | (simp only [List.length_drop, List.length_take]; rfl)) ?_; (with_reducible refine (truffleref06_signed.calls kj24 (bt a0 a1) false _ A59.out).mono ?_); rintro e w' ⟨rfl, ⟨nd, rfl⟩⟩; refine ⟨_, rfl, ?_⟩; (try (rw [drewN_self wc]; generalize hq_ : World.drewN wc _ = wc; have n0_ : Aside0 (wc.heap[gb223]? = some (.cells #[.int .i64 0, .string (⟨#[]⟩ : ByteArray), .int .i64 0, .int .i64 0] 29 (0, 0))) := ⟨by rw [← hq_]; exact (by (with_reducible repeat first | apply Y11 | apply Y13 | apply Y12); exact BK223.out)⟩; have n1_ : Aside0 (Below w.heap.size w wc) := ⟨by rw [← hq_]; exact (by repeat (with_reducible first | exact HB.out | apply Y3 | apply Y1 | apply Y2 | refine Y4 ?_ GE223.out))⟩; clear BK223 HB hq_; have BK223 := n0_; have HB := n1_; clear n0_ n1_)); have ⟨hcz65_0, hcz65_1, hcz65_2, hcz65_3, hfz65_0, hfz65_1, hfz65_2, hfz65_3⟩ := sq_box4 BK223.out))
     refine bodyPost_ret (results_ct rfl _ _ gb223 29 #[.int .i64 0, .string (⟨#[]⟩ : ByteArray), .int .i64 0, .int .i64 0] (0, 0) _ rfl (by (with_reducible repeat first | apply Y11 | apply Y13 | apply Y12); refine blk_put (cs := #[.int .i64 0, .string (⟨#[]⟩ : ByteArray), .int .i64 0, .int .i64 0]) ?_ 3 _ rfl; (with_reducible repeat first | apply Y11 | apply Y13 | apply Y12); refine blk_put (cs := #[.int .i64 0, .string (⟨#[]⟩ : ByteArray), .int .i64 0, .int .i64 0]) ?_ 2 _ rfl; (with_reducible repeat first | apply Y11 | apply Y13 | apply Y12); refine blk_put (cs := #[.int .i64 0, .string (⟨#[]⟩ : ByteArray), .int .i64 0, .int .i64 0]) ?_ 1 _ rfl; (with_reducible repeat first | apply Y11 | apply Y13 | apply Y12); refine blk_put (cs := #[.int .i64 0, .string (⟨#[]⟩ : ByteArray), .int .i64 0, .int .i64 0]) ?_ 0 _ rfl; (with_reducible repeat first | apply Y11 | apply Y13 | apply Y12); exact BK223.out) Tryd.underlying29 rfl (by kernel_rfl)) rfl ?_
     exact ⟨by first | rfl | (simp [] <;> rfl) | (simp [*] <;> rfl), by repeat (with_reducible first | exact HB.out | apply Y3 | apply Y1 | apply Y2 | refine Y4 ?_ GE223.out)⟩
    subst c60
    have H1 : (if 0 ≤ a1 then (if a1 ≤ (wrap64 (a1 + 1)) then (if (wrap64 (a1 + 1)) ≤ (a0.size : Int) then (some (3, a0.extract (a1 : Int).toNat ((wrap64 (a1 + 1)) : Int).toNat, 0, a1, (wrap64 (a1 + 1)))) else (none)) else (none)) else (none)) = some (r1, r2, r3, r4, r5) := by first | (rw [if_pos rfl] at H; exact H) | rfl
    clear H
    have H := H1
    clear H1
    by_cases c61 : 0 ≤ a1
    rotate_left
    ·rw [if_neg c61] at H
     exact absurd H (by simp)
    rw [if_pos c61] at H
    have c61b0 := eq_true c61
    have c61b1 : decide (0 ≤ a1) = true := decide_eq_true c61
    clear c61
    by_cases c62 : a1 ≤ (wrap64 (a1 + 1))
    rotate_left
    ·rw [if_neg c62] at H
     exact absurd H (by simp)
    rw [if_pos c62] at H
    have c62b0 := eq_true c62
    have c62b1 : decide (a1 ≤ (wrap64 (a1 + 1))) = true := decide_eq_true c62
    by_cases c63 : (wrap64 (a1 + 1)) ≤ (a0.size : Int)
    rotate_left
    ·rw [if_neg c63] at H
     exact absurd H (by simp)
    rw [if_pos c63] at H
    have c63b0 := eq_true c63
    have c63b1 : decide ((wrap64 (a1 + 1)) ≤ (a0.size : Int)) = true := decide_eq_true c63
    simp only [Option.some.injEq, Prod.mk.injEq] at H
    obtain ⟨rfl, rfl, rfl, rfl, rfl⟩ := H
    go_wp2_with (first | ((with_reducible refine gate_callee (f := 67) rfl ?_); refine goesL_ (some 94) rfl rfl Tryd.func67 (by kernel_rfl) rfl #[.int .u8 (bt a0 a1)] rfl (by (try simp only [List.map_toArray, List.map_cons, List.map_nil]); first | done | rfl | (simp only [List.length_drop, List.length_take]; rfl)) ?_; (with_reducible refine (truffleref06_signed.calls kj24 (bt a0 a1) true _ A59.out).mono ?_); rintro e w' ⟨rfl, ⟨nd, rfl⟩⟩; refine ⟨_, rfl, ?_⟩; (try (rw [drewN_self wc]; generalize hq_ : World.drewN wc _ = wc; have n0_ : Aside0 (wc.heap[gb223]? = some (.cells #[.int .i64 0, .string (⟨#[]⟩ : ByteArray), .int .i64 0, .int .i64 0] 29 (0, 0))) := ⟨by rw [← hq_]; exact (by (with_reducible repeat first | apply Y11 | apply Y13 | apply Y12); exact BK223.out)⟩; have n1_ : Aside0 (Below w.heap.size w wc) := ⟨by rw [← hq_]; exact (by repeat (with_reducible first | exact HB.out | apply Y3 | apply Y1 | apply Y2 | refine Y4 ?_ GE223.out))⟩; clear BK223 HB hq_; have BK223 := n0_; have HB := n1_; clear n0_ n1_)); have ⟨hcz64_0, hcz64_1, hcz64_2, hcz64_3, hfz64_0, hfz64_1, hfz64_2, hfz64_3⟩ := sq_box4 BK223.out))
    refine bodyPost_ret (results_ct rfl _ _ gb223 29 #[.int .i64 3, .string (a0.extract (a1 : Int).toNat ((wrap64 (a1 + 1)) : Int).toNat), .int .i64 0, .int .i64 a1] (0, 0) _ rfl (by (with_reducible repeat first | apply Y11 | apply Y13 | apply Y12); refine blk_put (cs := #[.int .i64 3, .string (a0.extract (a1 : Int).toNat ((wrap64 (a1 + 1)) : Int).toNat), .int .i64 0, .int .i64 0]) ?_ 3 _ rfl; (with_reducible repeat first | apply Y11 | apply Y13 | apply Y12); refine blk_put (cs := #[.int .i64 3, .string (a0.extract (a1 : Int).toNat ((wrap64 (a1 + 1)) : Int).toNat), .int .i64 0, .int .i64 0]) ?_ 2 _ rfl; (with_reducible repeat first | apply Y11 | apply Y13 | apply Y12); refine blk_put (cs := #[.int .i64 3, .string (⟨#[]⟩ : ByteArray), .int .i64 0, .int .i64 0]) ?_ 1 _ rfl; (with_reducible repeat first | apply Y11 | apply Y13 | apply Y12); refine blk_put (cs := #[.int .i64 0, .string (⟨#[]⟩ : ByteArray), .int .i64 0, .int .i64 0]) ?_ 0 _ rfl; (with_reducible repeat first | apply Y11 | apply Y13 | apply Y12); exact BK223.out) Tryd.underlying29 rfl (by kernel_rfl)) rfl ?_
    exact ⟨by first | rfl | (simp [] <;> rfl) | (simp [*] <;> rfl), by repeat (with_reducible first | exact HB.out | apply Y3 | apply Y1 | apply Y2 | refine Y4 ?_ GE223.out)⟩
   subst c29
   have H1 : (truffleref06_one.l1 kj24 a0 a1 (wrap64 (a1 + 1))) = some (r1, r2, r3, r4, r5) := by first | (rw [if_pos rfl] at H; exact H) | rfl
   clear H
   have H := H1
   clear H1
   have H' := Y0 H
   clear H
   go_wp2
   try go_simp
   go_loopg [7] kj24 (fun kq v7 w' => ∃ (x7_2 : Int), v7 = .int .i64 x7_2 ∧ Aside0 (truffleref06_one.l1 kq a0 a1 x7_2 = some (r1, r2, r3, r4, r5)) ∧ Aside0 (kq ≤ kj24) ∧ Aside0 (w'.heap[gb223]? = some (.cells #[.int .i64 0, .string (⟨#[]⟩ : ByteArray), .int .i64 0, .int .i64 0] 29 (0, 0))) ∧ Aside0 (Below w.heap.size w w'))
   case atStart => exact ⟨((wrap64 (a1 + 1))), (by first | rfl | (simp; done) | (simp [*]; done)), H', ⟨Nat.le_refl _⟩, ⟨by (with_reducible repeat first | apply Y11 | apply Y13 | apply Y12); exact BK223.out⟩, ⟨by repeat (with_reducible first | exact HB.out | apply Y3 | apply Y1 | apply Y2 | refine Y4 ?_ GE223.out)⟩⟩
   case round =>
    clear H'
    obtain ⟨x7_2, rfl, HA, HK2, BK223, HB⟩ := hrel
    cases gk with
    | zero => exact absurd HA.out (by simp [truffleref06_one.l1])
    | succ k2 =>
     have H := HA.out
     clear HA
     simp only [truffleref06_one.l1] at H
     by_cases c30 : x7_2 < (a0.size : Int)
     rotate_left
     ·rw [if_neg c30] at H
      have c30b0 : decide (x7_2 < (a0.size : Int)) = false := decide_eq_false c30
      clear c30
      by_cases c45 : 0 ≤ a1
      rotate_left
      ·rw [if_neg c45] at H
       exact absurd H (by simp)
      rw [if_pos c45] at H
      have c45b0 := eq_true c45
      have c45b1 : decide (0 ≤ a1) = true := decide_eq_true c45
      clear c45
      by_cases c46 : a1 ≤ x7_2
      rotate_left
      ·rw [if_neg c46] at H
       exact absurd H (by simp)
      rw [if_pos c46] at H
      have c46b0 := eq_true c46
      have c46b1 : decide (a1 ≤ x7_2) = true := decide_eq_true c46
      clear c46
      by_cases c47 : x7_2 ≤ (a0.size : Int)
      rotate_left
      ·rw [if_neg c47] at H
       exact absurd H (by simp)
      rw [if_pos c47] at H
      have c47b0 := eq_true c47
      have c47b1 : decide (x7_2 ≤ (a0.size : Int)) = true := decide_eq_true c47
      clear c47
      replace H := Y17.mp H
      obtain ⟨⟨t231, t232⟩, A480, H⟩ := H
      replace H : (if t232 = true then (some (1, a0.extract (a1 : Int).toNat (x7_2 : Int).toNat, t231, a1, x7_2)) else (some (0, (⟨#[]⟩ : ByteArray), 0, 0, (-1)))) = some (r1, r2, r3, r4, r5) := H
      have A48 := Y0 A480
      clear A480
      by_cases c49 : t232 = true
      rotate_left
      ·replace c49 := Bool.eq_false_iff.mpr c49
       subst c49
       have H1 : (some (0, (⟨#[]⟩ : ByteArray), 0, 0, (-1))) = some (r1, r2, r3, r4, r5) := by first | (rw [if_neg (show ¬ (false = true) by decide)] at H; exact H) | rfl
       clear H
       have H := H1
       clear H1
       simp only [Option.some.injEq, Prod.mk.injEq] at H
       obtain ⟨rfl, rfl, rfl, rfl, rfl⟩ := H
       go_wp2_with (first | ((with_reducible refine gate_callee (f := 65) rfl ?_); refine goesL_ (some 67) rfl rfl Tryd.func65 (by kernel_rfl) rfl #[.string (a0.extract (a1 : Int).toNat (x7_2 : Int).toNat)] rfl (by (try simp only [List.map_toArray, List.map_cons, List.map_nil]); first | done | rfl | (simp only [List.length_drop, List.length_take]; rfl)) ?_; (with_reducible refine (truffleref06_number.calls k2 (a0.extract (a1 : Int).toNat (x7_2 : Int).toNat) t231 false _ A48.out).mono ?_); rintro e w' ⟨rfl, ⟨nd, rfl⟩⟩; refine ⟨_, rfl, ?_⟩; (try (rw [drewN_self wr]; generalize hq_ : World.drewN wr _ = wr; have n0_ : Aside0 (wr.heap[gb223]? = some (.cells #[.int .i64 0, .string (⟨#[]⟩ : ByteArray), .int .i64 0, .int .i64 0] 29 (0, 0))) := ⟨by rw [← hq_]; exact (by (with_reducible repeat first | apply Y11 | apply Y13 | apply Y12); exact BK223.out)⟩; have n1_ : Aside0 (Below w.heap.size w wr) := ⟨by rw [← hq_]; exact (by repeat (with_reducible first | exact HB.out | apply Y3 | apply Y1 | apply Y2 | refine Y4 ?_ GE223.out))⟩; clear BK223 HB hq_; have BK223 := n0_; have HB := n1_; clear n0_ n1_)); have ⟨hcz54_0, hcz54_1, hcz54_2, hcz54_3, hfz54_0, hfz54_1, hfz54_2, hfz54_3⟩ := sq_box4 BK223.out))
       refine bodyPost_ret (results_ct rfl _ _ gb223 29 #[.int .i64 0, .string (⟨#[]⟩ : ByteArray), .int .i64 0, .int .i64 0] (0, 0) _ rfl (by (with_reducible repeat first | apply Y11 | apply Y13 | apply Y12); refine blk_put (cs := #[.int .i64 0, .string (⟨#[]⟩ : ByteArray), .int .i64 0, .int .i64 0]) ?_ 3 _ rfl; (with_reducible repeat first | apply Y11 | apply Y13 | apply Y12); refine blk_put (cs := #[.int .i64 0, .string (⟨#[]⟩ : ByteArray), .int .i64 0, .int .i64 0]) ?_ 2 _ rfl; (with_reducible repeat first | apply Y11 | apply Y13 | apply Y12); refine blk_put (cs := #[.int .i64 0, .string (⟨#[]⟩ : ByteArray), .int .i64 0, .int .i64 0]) ?_ 1 _ rfl; (with_reducible repeat first | apply Y11 | apply Y13 | apply Y12); refine blk_put (cs := #[.int .i64 0, .string (⟨#[]⟩ : ByteArray), .int .i64 0, .int .i64 0]) ?_ 0 _ rfl; (with_reducible repeat first | apply Y11 | apply Y13 | apply Y12); exact BK223.out) Tryd.underlying29 rfl (by kernel_rfl)) rfl ?_
       exact ⟨by first | rfl | (simp [] <;> rfl) | (simp [*] <;> rfl), by repeat (with_reducible first | exact HB.out | apply Y3 | apply Y1 | apply Y2 | refine Y4 ?_ GE223.out)⟩
      subst c49
      have H1 : (some (1, a0.extract (a1 : Int).toNat (x7_2 : Int).toNat, t231, a1, x7_2)) = some (r1, r2, r3, r4, r5) := by first | (rw [if_pos rfl] at H; exact H) | rfl
      clear H
      have H := H1
      clear H1
      have c50b0 := eq_true (of_decide_eq_true (by first | (with_reducible assumption) | assumption) : 0 ≤ a1)
      have c51b0 := eq_true (of_decide_eq_true (by first | (with_reducible assumption) | assumption) : a1 ≤ x7_2)
      have c52b0 := eq_true (of_decide_eq_true (by first | (with_reducible assumption) | assumption) : x7_2 ≤ (a0.size : Int))
      simp only [Option.some.injEq, Prod.mk.injEq] at H
      obtain ⟨rfl, rfl, rfl, rfl, rfl⟩ := H
      go_wp2_with (first | ((with_reducible refine gate_callee (f := 65) rfl ?_); refine goesL_ (some 67) rfl rfl Tryd.func65 (by kernel_rfl) rfl #[.string (a0.extract (a1 : Int).toNat (x7_2 : Int).toNat)] rfl (by (try simp only [List.map_toArray, List.map_cons, List.map_nil]); first | done | rfl | (simp only [List.length_drop, List.length_take]; rfl)) ?_; (with_reducible refine (truffleref06_number.calls k2 (a0.extract (a1 : Int).toNat (x7_2 : Int).toNat) t231 true _ A48.out).mono ?_); rintro e w' ⟨rfl, ⟨nd, rfl⟩⟩; refine ⟨_, rfl, ?_⟩; (try (rw [drewN_self wr]; generalize hq_ : World.drewN wr _ = wr; have n0_ : Aside0 (wr.heap[gb223]? = some (.cells #[.int .i64 0, .string (⟨#[]⟩ : ByteArray), .int .i64 0, .int .i64 0] 29 (0, 0))) := ⟨by rw [← hq_]; exact (by (with_reducible repeat first | apply Y11 | apply Y13 | apply Y12); exact BK223.out)⟩; have n1_ : Aside0 (Below w.heap.size w wr) := ⟨by rw [← hq_]; exact (by repeat (with_reducible first | exact HB.out | apply Y3 | apply Y1 | apply Y2 | refine Y4 ?_ GE223.out))⟩; clear BK223 HB hq_; have BK223 := n0_; have HB := n1_; clear n0_ n1_)); have ⟨hcz53_0, hcz53_1, hcz53_2, hcz53_3, hfz53_0, hfz53_1, hfz53_2, hfz53_3⟩ := sq_box4 BK223.out))
      refine bodyPost_ret (results_ct rfl _ _ gb223 29 #[.int .i64 1, .string (a0.extract (a1 : Int).toNat (x7_2 : Int).toNat), .int .i64 t231, .int .i64 a1] (0, 0) _ rfl (by (with_reducible repeat first | apply Y11 | apply Y13 | apply Y12); refine blk_put (cs := #[.int .i64 1, .string (a0.extract (a1 : Int).toNat (x7_2 : Int).toNat), .int .i64 t231, .int .i64 0]) ?_ 3 _ rfl; (with_reducible repeat first | apply Y11 | apply Y13 | apply Y12); refine blk_put (cs := #[.int .i64 1, .string (a0.extract (a1 : Int).toNat (x7_2 : Int).toNat), .int .i64 0, .int .i64 0]) ?_ 2 _ rfl; (with_reducible repeat first | apply Y11 | apply Y13 | apply Y12); refine blk_put (cs := #[.int .i64 1, .string (⟨#[]⟩ : ByteArray), .int .i64 0, .int .i64 0]) ?_ 1 _ rfl; (with_reducible repeat first | apply Y11 | apply Y13 | apply Y12); refine blk_put (cs := #[.int .i64 0, .string (⟨#[]⟩ : ByteArray), .int .i64 0, .int .i64 0]) ?_ 0 _ rfl; (with_reducible repeat first | apply Y11 | apply Y13 | apply Y12); exact BK223.out) Tryd.underlying29 rfl (by kernel_rfl)) rfl ?_
      exact ⟨by first | rfl | (simp [] <;> rfl) | (simp [*] <;> rfl), by repeat (with_reducible first | exact HB.out | apply Y3 | apply Y1 | apply Y2 | refine Y4 ?_ GE223.out)⟩
     rw [if_pos c30] at H
     have c30b0 : decide (x7_2 < (a0.size : Int)) = true := decide_eq_true c30
     clear c30
     by_cases c31 : 0 ≤ x7_2
     rotate_left
     ·rw [if_neg c31] at H
      exact absurd H (by simp)
     rw [if_pos c31] at H
     have c31b0 : decide (0 ≤ x7_2) = true := decide_eq_true c31
     clear c31
     replace H := Y17.mp H
     obtain ⟨t228, A330, H⟩ := H
     replace H : (if t228 = true then (truffleref06_one.l1 k2 a0 a1 (wrap64 (x7_2 + 1))) else (if 0 ≤ a1 then (if a1 ≤ x7_2 then (if x7_2 ≤ (a0.size : Int) then ((truffleref06_number.f k2 (a0.extract (a1 : Int).toNat (x7_2 : Int).toNat)).bind fun bt229 => (if bt229.2 = true then (some (1, a0.extract (a1 : Int).toNat (x7_2 : Int).toNat, bt229.1, a1, x7_2)) else (some (0, (⟨#[]⟩ : ByteArray), 0, 0, (-1))))) else (none)) else (none)) else (none))) = some (r1, r2, r3, r4, r5) := H
     have A33 := Y0 A330
     clear A330
     by_cases c34 : t228 = true
     ·subst c34
      have H1 : (truffleref06_one.l1 k2 a0 a1 (wrap64 (x7_2 + 1))) = some (r1, r2, r3, r4, r5) := by first | (rw [if_pos rfl] at H; exact H) | rfl
      clear H
      have H := H1
      clear H1
      have H' := Y0 H
      clear H
      have p32 : 0 ≤ (x7_2 : Int) := of_decide_eq_true (by first | (with_reducible assumption) | assumption)
      have q32 : x7_2 < (a0.size : Int) := of_decide_eq_true (by first | (with_reducible assumption) | assumption)
      have hx32 := bt_at a0 x7_2
      replace p32 := eq_true p32
      replace q32 := eq_true q32
      go_wp2_with (first | (go_at_call 64; (with_reducible refine (truffleref06_digit.calls (bt a0 x7_2) true _ A33.out).mono ?_); rintro e w' ⟨rfl, ⟨nd, rfl⟩⟩))
      go_roundg k2
      case measure => have := HJ24.out; have := HK2.out; omega
      case rel => exact ⟨(wrap64 (x7_2 + 1)), (by first | rfl | (simp; done) | (simp [*]; done)), H', ⟨by have := HJ24.out; have := HK2.out; omega⟩, ⟨by (with_reducible repeat first | apply Y11 | apply Y13 | apply Y12); exact BK223.out⟩, ⟨by repeat (with_reducible first | exact HB.out | apply Y3 | apply Y1 | apply Y2 | refine Y4 ?_ GE223.out)⟩⟩
     replace c34 := Bool.eq_false_iff.mpr c34
     subst c34
     have H1 : (if 0 ≤ a1 then (if a1 ≤ x7_2 then (if x7_2 ≤ (a0.size : Int) then ((truffleref06_number.f k2 (a0.extract (a1 : Int).toNat (x7_2 : Int).toNat)).bind fun bt229 => (if bt229.2 = true then (some (1, a0.extract (a1 : Int).toNat (x7_2 : Int).toNat, bt229.1, a1, x7_2)) else (some (0, (⟨#[]⟩ : ByteArray), 0, 0, (-1))))) else (none)) else (none)) else (none)) = some (r1, r2, r3, r4, r5) := by first | (rw [if_neg (show ¬ (false = true) by decide)] at H; exact H) | rfl
     clear H
     have H := H1
     clear H1
     by_cases c35 : 0 ≤ a1
     rotate_left
     ·rw [if_neg c35] at H
      exact absurd H (by simp)
     rw [if_pos c35] at H
     have c35b0 := eq_true c35
     have c35b1 : decide (0 ≤ a1) = true := decide_eq_true c35
     clear c35
     by_cases c36 : a1 ≤ x7_2
     rotate_left
     ·rw [if_neg c36] at H
      exact absurd H (by simp)
     rw [if_pos c36] at H
     have c36b0 := eq_true c36
     have c36b1 : decide (a1 ≤ x7_2) = true := decide_eq_true c36
     clear c36
     by_cases c37 : x7_2 ≤ (a0.size : Int)
     rotate_left
     ·rw [if_neg c37] at H
      exact absurd H (by simp)
     rw [if_pos c37] at H
     have c37b0 := eq_true c37
     have c37b1 : decide (x7_2 ≤ (a0.size : Int)) = true := decide_eq_true c37
     clear c37
     replace H := Y17.mp H
     obtain ⟨⟨t229, t230⟩, A380, H⟩ := H
     replace H : (if t230 = true then (some (1, a0.extract (a1 : Int).toNat (x7_2 : Int).toNat, t229, a1, x7_2)) else (some (0, (⟨#[]⟩ : ByteArray), 0, 0, (-1)))) = some (r1, r2, r3, r4, r5) := H
     have A38 := Y0 A380
     clear A380
     by_cases c39 : t230 = true
     rotate_left
     ·replace c39 := Bool.eq_false_iff.mpr c39
      subst c39
      have H1 : (some (0, (⟨#[]⟩ : ByteArray), 0, 0, (-1))) = some (r1, r2, r3, r4, r5) := by first | (rw [if_neg (show ¬ (false = true) by decide)] at H; exact H) | rfl
      clear H
      have H := H1
      clear H1
      simp only [Option.some.injEq, Prod.mk.injEq] at H
      obtain ⟨rfl, rfl, rfl, rfl, rfl⟩ := H
      have p32 : 0 ≤ (x7_2 : Int) := of_decide_eq_true (by first | (with_reducible assumption) | assumption)
      have q32 : x7_2 < (a0.size : Int) := of_decide_eq_true (by first | (with_reducible assumption) | assumption)
      have hx32 := bt_at a0 x7_2
      replace p32 := eq_true p32
      replace q32 := eq_true q32
      go_wp2_with (first | (go_at_call 64; (with_reducible refine (truffleref06_digit.calls (bt a0 x7_2) false _ A33.out).mono ?_); rintro e w' ⟨rfl, ⟨nd, rfl⟩⟩; (try (rw [drewN_self wr]; generalize hq_ : World.drewN wr _ = wr; have n0_ : Aside0 (wr.heap[gb223]? = some (.cells #[.int .i64 0, .string (⟨#[]⟩ : ByteArray), .int .i64 0, .int .i64 0] 29 (0, 0))) := ⟨by rw [← hq_]; exact (by (with_reducible repeat first | apply Y11 | apply Y13 | apply Y12); exact BK223.out)⟩; have n1_ : Aside0 (Below w.heap.size w wr) := ⟨by rw [← hq_]; exact (by repeat (with_reducible first | exact HB.out | apply Y3 | apply Y1 | apply Y2 | refine Y4 ?_ GE223.out))⟩; clear BK223 HB hq_; have BK223 := n0_; have HB := n1_; clear n0_ n1_))) | ((with_reducible refine gate_callee (f := 65) rfl ?_); refine goesL_ (some 67) rfl rfl Tryd.func65 (by kernel_rfl) rfl #[.string (a0.extract (a1 : Int).toNat (x7_2 : Int).toNat)] rfl (by (try simp only [List.map_toArray, List.map_cons, List.map_nil]); first | done | rfl | (simp only [List.length_drop, List.length_take]; rfl)) ?_; (with_reducible refine (truffleref06_number.calls k2 (a0.extract (a1 : Int).toNat (x7_2 : Int).toNat) t229 false _ A38.out).mono ?_); rintro e w' ⟨rfl, ⟨nd, rfl⟩⟩; refine ⟨_, rfl, ?_⟩; (try (rw [drewN_self wr]; generalize hq_ : World.drewN wr _ = wr; have n0_ : Aside0 (wr.heap[gb223]? = some (.cells #[.int .i64 0, .string (⟨#[]⟩ : ByteArray), .int .i64 0, .int .i64 0] 29 (0, 0))) := ⟨by rw [← hq_]; exact (by (with_reducible repeat first | apply Y11 | apply Y13 | apply Y12); exact BK223.out)⟩; have n1_ : Aside0 (Below w.heap.size w wr) := ⟨by rw [← hq_]; exact (by repeat (with_reducible first | exact HB.out | apply Y3 | apply Y1 | apply Y2 | refine Y4 ?_ GE223.out))⟩; clear BK223 HB hq_; have BK223 := n0_; have HB := n1_; clear n0_ n1_)); have ⟨hcz44_0, hcz44_1, hcz44_2, hcz44_3, hfz44_0, hfz44_1, hfz44_2, hfz44_3⟩ := sq_box4 BK223.out))
      refine bodyPost_ret (results_ct rfl _ _ gb223 29 #[.int .i64 0, .string (⟨#[]⟩ : ByteArray), .int .i64 0, .int .i64 0] (0, 0) _ rfl (by (with_reducible repeat first | apply Y11 | apply Y13 | apply Y12); refine blk_put (cs := #[.int .i64 0, .string (⟨#[]⟩ : ByteArray), .int .i64 0, .int .i64 0]) ?_ 3 _ rfl; (with_reducible repeat first | apply Y11 | apply Y13 | apply Y12); refine blk_put (cs := #[.int .i64 0, .string (⟨#[]⟩ : ByteArray), .int .i64 0, .int .i64 0]) ?_ 2 _ rfl; (with_reducible repeat first | apply Y11 | apply Y13 | apply Y12); refine blk_put (cs := #[.int .i64 0, .string (⟨#[]⟩ : ByteArray), .int .i64 0, .int .i64 0]) ?_ 1 _ rfl; (with_reducible repeat first | apply Y11 | apply Y13 | apply Y12); refine blk_put (cs := #[.int .i64 0, .string (⟨#[]⟩ : ByteArray), .int .i64 0, .int .i64 0]) ?_ 0 _ rfl; (with_reducible repeat first | apply Y11 | apply Y13 | apply Y12); exact BK223.out) Tryd.underlying29 rfl (by kernel_rfl)) rfl ?_
      exact ⟨by first | rfl | (simp [] <;> rfl) | (simp [*] <;> rfl), by repeat (with_reducible first | exact HB.out | apply Y3 | apply Y1 | apply Y2 | refine Y4 ?_ GE223.out)⟩
     subst c39
     have H1 : (some (1, a0.extract (a1 : Int).toNat (x7_2 : Int).toNat, t229, a1, x7_2)) = some (r1, r2, r3, r4, r5) := by first | (rw [if_pos rfl] at H; exact H) | rfl
     clear H
     have H := H1
     clear H1
     have c40b0 := eq_true (of_decide_eq_true (by first | (with_reducible assumption) | assumption) : 0 ≤ a1)
     have c41b0 := eq_true (of_decide_eq_true (by first | (with_reducible assumption) | assumption) : a1 ≤ x7_2)
     have c42b0 := eq_true (of_decide_eq_true (by first | (with_reducible assumption) | assumption) : x7_2 ≤ (a0.size : Int))
     simp only [Option.some.injEq, Prod.mk.injEq] at H
     obtain ⟨rfl, rfl, rfl, rfl, rfl⟩ := H
     have p32 : 0 ≤ (x7_2 : Int) := of_decide_eq_true (by first | (with_reducible assumption) | assumption)
     have q32 : x7_2 < (a0.size : Int) := of_decide_eq_true (by first | (with_reducible assumption) | assumption)
     have hx32 := bt_at a0 x7_2
     replace p32 := eq_true p32
     replace q32 := eq_true q32
     go_wp2_with (first | (go_at_call 64; (with_reducible refine (truffleref06_digit.calls (bt a0 x7_2) false _ A33.out).mono ?_); rintro e w' ⟨rfl, ⟨nd, rfl⟩⟩; (try (rw [drewN_self wr]; generalize hq_ : World.drewN wr _ = wr; have n0_ : Aside0 (wr.heap[gb223]? = some (.cells #[.int .i64 0, .string (⟨#[]⟩ : ByteArray), .int .i64 0, .int .i64 0] 29 (0, 0))) := ⟨by rw [← hq_]; exact (by (with_reducible repeat first | apply Y11 | apply Y13 | apply Y12); exact BK223.out)⟩; have n1_ : Aside0 (Below w.heap.size w wr) := ⟨by rw [← hq_]; exact (by repeat (with_reducible first | exact HB.out | apply Y3 | apply Y1 | apply Y2 | refine Y4 ?_ GE223.out))⟩; clear BK223 HB hq_; have BK223 := n0_; have HB := n1_; clear n0_ n1_))) | ((with_reducible refine gate_callee (f := 65) rfl ?_); refine goesL_ (some 67) rfl rfl Tryd.func65 (by kernel_rfl) rfl #[.string (a0.extract (a1 : Int).toNat (x7_2 : Int).toNat)] rfl (by (try simp only [List.map_toArray, List.map_cons, List.map_nil]); first | done | rfl | (simp only [List.length_drop, List.length_take]; rfl)) ?_; (with_reducible refine (truffleref06_number.calls k2 (a0.extract (a1 : Int).toNat (x7_2 : Int).toNat) t229 true _ A38.out).mono ?_); rintro e w' ⟨rfl, ⟨nd, rfl⟩⟩; refine ⟨_, rfl, ?_⟩; (try (rw [drewN_self wr]; generalize hq_ : World.drewN wr _ = wr; have n0_ : Aside0 (wr.heap[gb223]? = some (.cells #[.int .i64 0, .string (⟨#[]⟩ : ByteArray), .int .i64 0, .int .i64 0] 29 (0, 0))) := ⟨by rw [← hq_]; exact (by (with_reducible repeat first | apply Y11 | apply Y13 | apply Y12); exact BK223.out)⟩; have n1_ : Aside0 (Below w.heap.size w wr) := ⟨by rw [← hq_]; exact (by repeat (with_reducible first | exact HB.out | apply Y3 | apply Y1 | apply Y2 | refine Y4 ?_ GE223.out))⟩; clear BK223 HB hq_; have BK223 := n0_; have HB := n1_; clear n0_ n1_)); have ⟨hcz43_0, hcz43_1, hcz43_2, hcz43_3, hfz43_0, hfz43_1, hfz43_2, hfz43_3⟩ := sq_box4 BK223.out))
     refine bodyPost_ret (results_ct rfl _ _ gb223 29 #[.int .i64 1, .string (a0.extract (a1 : Int).toNat (x7_2 : Int).toNat), .int .i64 t229, .int .i64 a1] (0, 0) _ rfl (by (with_reducible repeat first | apply Y11 | apply Y13 | apply Y12); refine blk_put (cs := #[.int .i64 1, .string (a0.extract (a1 : Int).toNat (x7_2 : Int).toNat), .int .i64 t229, .int .i64 0]) ?_ 3 _ rfl; (with_reducible repeat first | apply Y11 | apply Y13 | apply Y12); refine blk_put (cs := #[.int .i64 1, .string (a0.extract (a1 : Int).toNat (x7_2 : Int).toNat), .int .i64 0, .int .i64 0]) ?_ 2 _ rfl; (with_reducible repeat first | apply Y11 | apply Y13 | apply Y12); refine blk_put (cs := #[.int .i64 1, .string (⟨#[]⟩ : ByteArray), .int .i64 0, .int .i64 0]) ?_ 1 _ rfl; (with_reducible repeat first | apply Y11 | apply Y13 | apply Y12); refine blk_put (cs := #[.int .i64 0, .string (⟨#[]⟩ : ByteArray), .int .i64 0, .int .i64 0]) ?_ 0 _ rfl; (with_reducible repeat first | apply Y11 | apply Y13 | apply Y12); exact BK223.out) Tryd.underlying29 rfl (by kernel_rfl)) rfl ?_
     exact ⟨by first | rfl | (simp [] <;> rfl) | (simp [*] <;> rfl), by repeat (with_reducible first | exact HB.out | apply Y3 | apply Y1 | apply Y2 | refine Y4 ?_ GE223.out)⟩
def truffleref06_All.l0 : Nat → ByteArray → List (S29) → Int → Option ((List (S29)) × Int × Int)
 | 0, _, _, _ => none
 | k + 1, x0, x5, x6 => if x6 < (x0.size : Int) then ((truffleref06_one.f k x0 x6).bind fun bt237 => (if bt237.2.2.2.2 < 0 then (some (([] : List (S29)), x6, 4)) else (if (x5.length : Int) ≥ 1000 then (some (([] : List (S29)), x6, 2)) else (if x5.length < 3518437208883 then ((truffleref06_blank.f k x0 bt237.2.2.2.2).bind fun t246 => (truffleref06_All.l0 k x0 (x5 ++ [(⟨bt237.1, bt237.2.1, bt237.2.2.1, bt237.2.2.2.1⟩ : S29)]) t246)) else (none))))) else (some (x5, (x0.size : Int), 0))
def truffleref06_All.f (k : Nat) (a0 : ByteArray) : Option ((List (S29)) × Int × Int) := if (a0.size : Int) > 5000 then (some (([] : List (S29)), 0, 2)) else ((truffleref06_blank.f k a0 0).bind fun t236 => (truffleref06_All.l0 k a0 ([] : List (S29)) t236))
set_option maxHeartbeats 8000000 in
set_option maxRecDepth 100000 in
theorem truffleref06_All.calls (k : Nat) (a0 : ByteArray) (r1 : List (S29)) (r2 : Int) (r3 : Int) (w : World) (h : truffleref06_All.f k a0 = some (r1, r2, r3)) :
  Calls Tryd.prog 18 #[.string a0] w fun e w' => ∃ v0_ : Value, e = .returned (.tuple #[v0_, .int .i64 r2, .int .i64 r3]) ∧ Kd.R k29 29 w' w.heap.size (fun _ => True) v0_ r1 ∧ Below w.heap.size w w' := by
 have hu29 := Tryd.underlying29
 have HB := Y0 (Below.refl w.heap.size w)
 have H : (if (a0.size : Int) > 5000 then (some (([] : List (S29)), 0, 2)) else ((truffleref06_blank.f k a0 0).bind fun t236 => (truffleref06_All.l0 k a0 ([] : List (S29)) t236))) = some (r1, r2, r3) := h
 clear h
 by_cases c2 : (a0.size : Int) > 5000
 ·rw [if_pos c2] at H
  have c2b0 : decide (5000 < (a0.size : Int)) = true := decide_eq_true c2
  have c2b1 : decide (5000 < a0.size) = true := decide_eq_true (by omega)
  clear c2
  simp only [Option.some.injEq, Prod.mk.injEq] at H
  obtain ⟨rfl, rfl, rfl⟩ := H
  go_enter Tryd.func18, Tryd.ntmps18
  go_wp2
  go_ret3
  exact ⟨_, by first | rfl | (simp [] <;> rfl) | (simp [*] <;> rfl), by first | exact Kd.R_nil _ _ _ _ _ | exact Kd.N_nil _ _ _ _ _ | exact Kd.V_nil _ _ _ _ _ | exact Kd.Q_nil _ _ _ _ _ | exact Kd.S_nil _ _ _ _ _, by repeat (with_reducible first | exact HB.out | apply Y3 | apply Y1 | apply Y2)⟩
 rw [if_neg c2] at H
 have c2b0 : decide (5000 < (a0.size : Int)) = false := decide_eq_false c2
 have c2b1 : decide (5000 < a0.size) = false := decide_eq_false (by omega)
 clear c2
 replace H := Y17.mp H
 obtain ⟨t236, A30, H⟩ := H
 replace H : (truffleref06_All.l0 k a0 ([] : List (S29)) t236) = some (r1, r2, r3) := H
 have A3 := Y0 A30
 clear A30
 have H' := Y0 H
 clear H
 go_enter Tryd.func18, Tryd.ntmps18
 go_wp2_with (first | ((with_reducible refine gate_callee (f := 39) rfl ?_); refine goesL_ (some 13) rfl rfl Tryd.func39 (by kernel_rfl) rfl #[.string a0, .int .i64 0] rfl (by (try simp only [List.map_toArray, List.map_cons, List.map_nil]); first | done | rfl | (simp only [List.length_drop, List.length_take]; rfl)) ?_; (with_reducible refine (truffleref06_blank.calls k a0 0 t236 _ A3.out).mono ?_); rintro e w' ⟨rfl, ⟨nd, rfl⟩⟩; refine ⟨_, rfl, ?_⟩))
 go_loopg [5, 6] k (fun kq v5 v6 w' => ∃ (x5_1 : List (S29)) (x6_1 : Int), v6 = .int .i64 x6_1 ∧ Aside0 (truffleref06_All.l0 kq a0 x5_1 x6_1 = some (r1, r2, r3)) ∧ Aside0 (kq ≤ k) ∧ Aside0 (Kd.R k29 29 w' w.heap.size (fun _ => True) v5 x5_1) ∧ Aside0 (Below w.heap.size w w'))
 case atStart => exact ⟨(([] : List (S29))), (t236), (by first | rfl | (simp; done) | (simp [*]; done)), H', ⟨Nat.le_refl _⟩, ⟨by first | exact Kd.R_nil _ _ _ _ _ | exact Kd.N_nil _ _ _ _ _ | exact Kd.V_nil _ _ _ _ _ | exact Kd.Q_nil _ _ _ _ _ | exact Kd.S_nil _ _ _ _ _⟩, ⟨by repeat (with_reducible first | exact HB.out | apply Y3 | apply Y1 | apply Y2)⟩⟩
 case round =>
  clear H'
  obtain ⟨x5_1, x6_1, rfl, HA, HK1, HO_5, HB⟩ := hrel
  cases gk with
  | zero => exact absurd HA.out (by simp [truffleref06_All.l0])
  | succ k1 =>
   have H := HA.out
   clear HA
   simp only [truffleref06_All.l0] at H
   by_cases c4 : x6_1 < (a0.size : Int)
   rotate_left
   ·rw [if_neg c4] at H
    have c4b0 : decide (x6_1 < (a0.size : Int)) = false := decide_eq_false c4
    clear c4
    simp only [Option.some.injEq, Prod.mk.injEq] at H
    obtain ⟨rfl, rfl, rfl⟩ := H
    go_wp2
    go_ret3
    exact ⟨_, by first | rfl | (simp [] <;> rfl) | (simp [*] <;> rfl), by (with_reducible repeat (first | apply Kd.R_alloc | apply Y6 | apply Y7)); exact HO_5.out, by repeat (with_reducible first | exact HB.out | apply Y3 | apply Y1 | apply Y2)⟩
   rw [if_pos c4] at H
   have c4b0 : decide (x6_1 < (a0.size : Int)) = true := decide_eq_true c4
   clear c4
   replace H := Y17.mp H
   obtain ⟨⟨t237, t238, t239, t240, t241⟩, A50, H⟩ := H
   replace H : (if t241 < 0 then (some (([] : List (S29)), x6_1, 4)) else (if (x5_1.length : Int) ≥ 1000 then (some (([] : List (S29)), x6_1, 2)) else (if x5_1.length < 3518437208883 then ((truffleref06_blank.f k1 a0 t241).bind fun t246 => (truffleref06_All.l0 k1 a0 (x5_1 ++ [(⟨t237, t238, t239, t240⟩ : S29)]) t246)) else (none)))) = some (r1, r2, r3) := H
   have A5 := Y0 A50
   clear A50
   by_cases c6 : t241 < 0
   ·rw [if_pos c6] at H
    have c6b0 : decide (t241 < 0) = true := decide_eq_true c6
    clear c6
    simp only [Option.some.injEq, Prod.mk.injEq] at H
    obtain ⟨rfl, rfl, rfl⟩ := H
    go_wp2_with (first | ((with_reducible refine gate_callee (f := 40) rfl ?_); refine goesL_ (some 21) rfl rfl Tryd.func40 (by kernel_rfl) rfl #[.string a0, .int .i64 x6_1] rfl (by (try simp only [List.map_toArray, List.map_cons, List.map_nil]); first | done | rfl | (simp only [List.length_drop, List.length_take]; rfl)) ?_; (with_reducible refine (truffleref06_one.calls k1 a0 x6_1 t237 t238 t239 t240 t241 _ A5.out).mono ?_); rintro e w7 ⟨rfl, hb⟩; refine ⟨_, rfl, ?_⟩; have n0_ := Y0 (Kd.R_below (by (with_reducible repeat (first | apply Kd.R_alloc | apply Y6 | apply Y7)); exact HO_5.out) hb); have n1_ := Y0 (below_step (by repeat (with_reducible first | exact HB.out | apply Y3 | apply Y1 | apply Y2)) hb); clear HO_5; clear HB; have HO_5 := n0_; have HB := n1_; clear n0_ n1_; (try clear hb); (try clear hb2); (try clear hk); (try clear hi)) | ((with_reducible refine gate_dst (N := 7) rfl ?_); refine box_event ?hg (N := 7) ?hd (cs := #[.int .i64 0, .string (⟨#[]⟩ : ByteArray), .int .i64 0, .int .i64 0]) (t := 29) ?hr ?_; (case hd => rfl); (case hg => rfl); (case hr => first | (go_simp; done) | (go_simp; rfl)); intro gb242 hg w8 hbox hb; have n0_ := Y0 (Kd.R_below (Kd.R_elderB (by (with_reducible repeat (first | apply Kd.R_alloc | apply Y6 | apply Y7)); exact HO_5.out) gb242 (Nat.le_of_eq hg.symm)) hb); have n1_ := Y0 (below_step (by repeat (with_reducible first | exact HB.out | apply Y3 | apply Y1 | apply Y2)) hb); have n2_ := Y0 (hbox); have n3_ := Y0 ((by rw [hg]; exact (below_size (by repeat (with_reducible first | exact HB.out | apply Y3 | apply Y1 | apply Y2))) : w.heap.size ≤ gb242)); have n4_ := Y0 ((by rw [hg]; exact (below_size (by repeat (with_reducible first | exact HB.out | apply Y3 | apply Y1 | apply Y2))) : w.heap.size ≤ gb242)); clear HO_5; clear HB; have HO_5 := n0_; have HB := n1_; have BK242 := n2_; have GW242 := n3_; have GE242 := n4_; clear n0_ n1_ n2_ n3_ n4_; clear hb hbox hg; have ⟨hcz9_0, hcz9_1, hcz9_2, hcz9_3, hfz9_0, hfz9_1, hfz9_2, hfz9_3⟩ := sq_box4 BK242.out))
    go_ret3
    exact ⟨_, by first | rfl | (simp [] <;> rfl) | (simp [*] <;> rfl), by first | exact Kd.R_nil _ _ _ _ _ | exact Kd.N_nil _ _ _ _ _ | exact Kd.V_nil _ _ _ _ _ | exact Kd.Q_nil _ _ _ _ _ | exact Kd.S_nil _ _ _ _ _, by repeat (with_reducible first | exact HB.out | apply Y3 | apply Y1 | apply Y2 | refine Y4 ?_ GE242.out)⟩
   rw [if_neg c6] at H
   have c6b0 : decide (t241 < 0) = false := decide_eq_false c6
   clear c6
   by_cases c10 : (x5_1.length : Int) ≥ 1000
   ·rw [if_pos c10] at H
    have c10b0 : decide (1000 ≤ (x5_1.length : Int)) = true := decide_eq_true c10
    have c10b1 : decide (1000 ≤ x5_1.length) = true := decide_eq_true (by omega)
    clear c10
    simp only [Option.some.injEq, Prod.mk.injEq] at H
    obtain ⟨rfl, rfl, rfl⟩ := H
    go_wp2_with (first | ((with_reducible refine gate_callee (f := 40) rfl ?_); refine goesL_ (some 21) rfl rfl Tryd.func40 (by kernel_rfl) rfl #[.string a0, .int .i64 x6_1] rfl (by (try simp only [List.map_toArray, List.map_cons, List.map_nil]); first | done | rfl | (simp only [List.length_drop, List.length_take]; rfl)) ?_; (with_reducible refine (truffleref06_one.calls k1 a0 x6_1 t237 t238 t239 t240 t241 _ A5.out).mono ?_); rintro e w11 ⟨rfl, hb⟩; refine ⟨_, rfl, ?_⟩; have n0_ := Y0 (Kd.R_below (by (with_reducible repeat (first | apply Kd.R_alloc | apply Y6 | apply Y7)); exact HO_5.out) hb); have n1_ := Y0 (below_step (by repeat (with_reducible first | exact HB.out | apply Y3 | apply Y1 | apply Y2)) hb); clear HO_5; clear HB; have HO_5 := n0_; have HB := n1_; clear n0_ n1_; (try clear hb); (try clear hb2); (try clear hk); (try clear hi)) | ((with_reducible refine gate_dst (N := 7) rfl ?_); refine box_event ?hg (N := 7) ?hd (cs := #[.int .i64 0, .string (⟨#[]⟩ : ByteArray), .int .i64 0, .int .i64 0]) (t := 29) ?hr ?_; (case hd => rfl); (case hg => rfl); (case hr => first | (go_simp; done) | (go_simp; rfl)); intro gb242 hg w12 hbox hb; have n0_ := Y0 (Kd.R_below (Kd.R_elderB (by (with_reducible repeat (first | apply Kd.R_alloc | apply Y6 | apply Y7)); exact HO_5.out) gb242 (Nat.le_of_eq hg.symm)) hb); have n1_ := Y0 (below_step (by repeat (with_reducible first | exact HB.out | apply Y3 | apply Y1 | apply Y2)) hb); have n2_ := Y0 (hbox); have n3_ := Y0 ((by rw [hg]; exact (below_size (by repeat (with_reducible first | exact HB.out | apply Y3 | apply Y1 | apply Y2))) : w.heap.size ≤ gb242)); have n4_ := Y0 ((by rw [hg]; exact (below_size (by repeat (with_reducible first | exact HB.out | apply Y3 | apply Y1 | apply Y2))) : w.heap.size ≤ gb242)); clear HO_5; clear HB; have HO_5 := n0_; have HB := n1_; have BK242 := n2_; have GW242 := n3_; have GE242 := n4_; clear n0_ n1_ n2_ n3_ n4_; clear hb hbox hg; have ⟨hcz13_0, hcz13_1, hcz13_2, hcz13_3, hfz13_0, hfz13_1, hfz13_2, hfz13_3⟩ := sq_box4 BK242.out; obtain ⟨Ao14, co14, eo14⟩ := Kd.R_slice HO_5.out; subst eo14))
    go_ret3
    exact ⟨_, by first | rfl | (simp [] <;> rfl) | (simp [*] <;> rfl), by first | exact Kd.R_nil _ _ _ _ _ | exact Kd.N_nil _ _ _ _ _ | exact Kd.V_nil _ _ _ _ _ | exact Kd.Q_nil _ _ _ _ _ | exact Kd.S_nil _ _ _ _ _, by repeat (with_reducible first | exact HB.out | apply Y3 | apply Y1 | apply Y2 | refine Y4 ?_ GE242.out)⟩
   rw [if_neg c10] at H
   have c10b0 : decide (1000 ≤ (x5_1.length : Int)) = false := decide_eq_false c10
   have c10b1 : decide (1000 ≤ x5_1.length) = false := decide_eq_false (by omega)
   clear c10
   by_cases c15 : x5_1.length < 3518437208883
   rotate_left
   ·rw [if_neg c15] at H
    exact absurd H (by simp)
   rw [if_pos c15] at H
   have LMc15 := Y0 c15
   clear c15
   obtain ⟨y243, hy243⟩ : ∃ y_ : List (S29), y_ = (x5_1 ++ [(⟨t237, t238, t239, t240⟩ : S29)]) := ⟨_, rfl⟩
   replace H : ((truffleref06_blank.f k1 a0 t241).bind fun t246 => (truffleref06_All.l0 k1 a0 y243 t246)) = some (r1, r2, r3) := by first | (rw [hy243]; with_reducible exact H) | (have H2_ := (Option.bind_some _ _).symm.trans H; rw [hy243]; with_reducible exact H2_) | (have H2_ := (Option.bind_some _ _).symm.trans H; with_reducible exact H2_) | with_reducible exact H | (rw [hy243]; exact H) | exact H
   have Ny243 := Y0 hy243
   clear hy243
   replace H := Y17.mp H
   obtain ⟨t246, A160, H⟩ := H
   replace H : (truffleref06_All.l0 k1 a0 y243 t246) = some (r1, r2, r3) := H
   have A16 := Y0 A160
   clear A160
   have H' := Y0 H
   clear H
   go_wp2_with (first | ((with_reducible refine gate_callee (f := 40) rfl ?_); refine goesL_ (some 21) rfl rfl Tryd.func40 (by kernel_rfl) rfl #[.string a0, .int .i64 x6_1] rfl (by (try simp only [List.map_toArray, List.map_cons, List.map_nil]); first | done | rfl | (simp only [List.length_drop, List.length_take]; rfl)) ?_; (with_reducible refine (truffleref06_one.calls k1 a0 x6_1 t237 t238 t239 t240 t241 _ A5.out).mono ?_); rintro e w17 ⟨rfl, hb⟩; refine ⟨_, rfl, ?_⟩; have n0_ := Y0 (Kd.R_below (by (with_reducible repeat (first | apply Kd.R_alloc | apply Y6 | apply Y7)); exact HO_5.out) hb); have n1_ := Y0 (below_step (by repeat (with_reducible first | exact HB.out | apply Y3 | apply Y1 | apply Y2)) hb); clear HO_5; clear HB; have HO_5 := n0_; have HB := n1_; clear n0_ n1_; (try clear hb); (try clear hb2); (try clear hk); (try clear hi)) | ((with_reducible refine gate_dst (N := 7) rfl ?_); refine box_event ?hg (N := 7) ?hd (cs := #[.int .i64 0, .string (⟨#[]⟩ : ByteArray), .int .i64 0, .int .i64 0]) (t := 29) ?hr ?_; (case hd => rfl); (case hg => rfl); (case hr => first | (go_simp; done) | (go_simp; rfl)); intro gb242 hg w18 hbox hb; have n0_ := Y0 (Kd.R_below (Kd.R_elderB (by (with_reducible repeat (first | apply Kd.R_alloc | apply Y6 | apply Y7)); exact HO_5.out) gb242 (Nat.le_of_eq hg.symm)) hb); have n1_ := Y0 (below_step (by repeat (with_reducible first | exact HB.out | apply Y3 | apply Y1 | apply Y2)) hb); have n2_ := Y0 (hbox); have n3_ := Y0 ((by rw [hg]; exact (below_size (by repeat (with_reducible first | exact HB.out | apply Y3 | apply Y1 | apply Y2))) : w.heap.size ≤ gb242)); have n4_ := Y0 ((by rw [hg]; exact (below_size (by repeat (with_reducible first | exact HB.out | apply Y3 | apply Y1 | apply Y2))) : w.heap.size ≤ gb242)); clear HO_5; clear HB; have HO_5 := n0_; have HB := n1_; have BK242 := n2_; have GW242 := n3_; have GE242 := n4_; clear n0_ n1_ n2_ n3_ n4_; clear hb hbox hg; have ⟨hcz19_0, hcz19_1, hcz19_2, hcz19_3, hfz19_0, hfz19_1, hfz19_2, hfz19_3⟩ := sq_box4 BK242.out; obtain ⟨Ao20, co20, eo20⟩ := Kd.R_slice HO_5.out; subst eo20) | ((with_reducible refine gate_builtin (b := .append) (xs := #[.tmp 31, .tmp 33]) rfl ?_); at_builtin; refine Kd.R_append k29 (w0 := w) w.heap.size rfl (.tmp 31) (.tmp 33) 23 29 (.agg #[(.int .i64 0), (.string ⟨#[]⟩), (.int .i64 0), (.int .i64 0)]) 40 rfl Tryd.underlying23 info29 rfl (by decide) (by omega) (.slice Ao20 x5_1.length co20) x5_1 (⟨t237, t238, t239, t240⟩ : S29) [.int .i64 t237, .string t238, .int .i64 t239, .int .i64 t240] (fun k_ => k_ ≠ gb242) (fun _ => False) rfl (by first | (go_simp; done) | (go_simp; rfl)) ?aP (fun _ hk => hk.elim) ?aF ?aO ?aB ?aS ?aL ?_; (case aP => exact k29_mkM _ _ _ (⟨t237, t238, t239, t240⟩ : S29)); (case aB => exact (by repeat (with_reducible first | exact HB.out | apply Y3 | apply Y1 | apply Y2 | refine Y4 ?_ GE242.out))); (case aF => exact (fun k_ hk => Kd.freshB (g := gb242) (o := .cells #[.int .i64 t237, .string t238, .int .i64 t239, .int .i64 t240] 29 (0, 0)) (by (with_reducible repeat first | apply Y11 | apply Y13 | apply Y12); refine blk_put (cs := #[.int .i64 t237, .string t238, .int .i64 t239, .int .i64 0]) ?_ 3 _ rfl; (with_reducible repeat first | apply Y11 | apply Y13 | apply Y12); refine blk_put (cs := #[.int .i64 t237, .string t238, .int .i64 0, .int .i64 0]) ?_ 2 _ rfl; (with_reducible repeat first | apply Y11 | apply Y13 | apply Y12); refine blk_put (cs := #[.int .i64 t237, .string (⟨#[]⟩ : ByteArray), .int .i64 0, .int .i64 0]) ?_ 1 _ rfl; (with_reducible repeat first | apply Y11 | apply Y13 | apply Y12); refine blk_put (cs := #[.int .i64 0, .string (⟨#[]⟩ : ByteArray), .int .i64 0, .int .i64 0]) ?_ 0 _ rfl; (with_reducible repeat first | apply Y11 | apply Y13 | apply Y12); exact BK242.out) k_ hk)); (case aO => exact (by (with_reducible repeat (first | apply Kd.R_alloc | apply Y6 | apply Y7)); exact Kd.R_mono (Kd.R_far (p := ⟨gb242, 3, none⟩) (Kd.R_far (p := ⟨gb242, 2, none⟩) (Kd.R_far (p := ⟨gb242, 1, none⟩) (Kd.R_far (p := ⟨gb242, 0, none⟩) (Kd.R_mono HO_5.out (fun k_ hk => (⟨hk, hk.2⟩ : _ ∧ k_ ≠ gb242))) (fun _ hk => hk.2) (.int .i64 t237)) (fun _ hk => hk.2) (.string t238)) (fun _ hk => hk.2) (.int .i64 t239)) (fun _ hk => hk.2) (.int .i64 t240)) (fun _ hk => hk.1.2))); (case aS => exact (below_size (by repeat (with_reducible first | exact HB.out | apply Y3 | apply Y1 | apply Y2 | refine Y4 ?_ GE242.out)))); (case aL => have := LMc15.out; omega); intro v244 w21 ho hb hg hat; rw [← Ny243.out] at ho; have n0_ := Y0 (blk_grown (g := gb242) (o := .cells #[.int .i64 t237, .string t238, .int .i64 t239, .int .i64 t240] 29 (0, 0)) (by (with_reducible repeat first | apply Y11 | apply Y13 | apply Y12); refine blk_put (cs := #[.int .i64 t237, .string t238, .int .i64 t239, .int .i64 0]) ?_ 3 _ rfl; (with_reducible repeat first | apply Y11 | apply Y13 | apply Y12); refine blk_put (cs := #[.int .i64 t237, .string t238, .int .i64 0, .int .i64 0]) ?_ 2 _ rfl; (with_reducible repeat first | apply Y11 | apply Y13 | apply Y12); refine blk_put (cs := #[.int .i64 t237, .string (⟨#[]⟩ : ByteArray), .int .i64 0, .int .i64 0]) ?_ 1 _ rfl; (with_reducible repeat first | apply Y11 | apply Y13 | apply Y12); refine blk_put (cs := #[.int .i64 0, .string (⟨#[]⟩ : ByteArray), .int .i64 0, .int .i64 0]) ?_ 0 _ rfl; (with_reducible repeat first | apply Y11 | apply Y13 | apply Y12); exact BK242.out) hg (Kd.R_away HO_5.out (fun _ hk => hk.2))); have n1_ := Y0 (hb); have n2_ := Y0 (ho); clear BK242; clear HB; clear HO_5; have BK242 := n0_; have HB := n1_; have HO245 := n2_; clear n0_ n1_ n2_; clear ho hb hg hat) | ((with_reducible refine gate_callee (f := 39) rfl ?_); refine goesL_ (some 37) rfl rfl Tryd.func39 (by kernel_rfl) rfl #[.string a0, .int .i64 t241] rfl (by (try simp only [List.map_toArray, List.map_cons, List.map_nil]); first | done | rfl | (simp only [List.length_drop, List.length_take]; rfl)) ?_; (with_reducible refine (truffleref06_blank.calls k1 a0 t241 t246 _ A16.out).mono ?_); rintro e w' ⟨rfl, ⟨nd, rfl⟩⟩; refine ⟨_, rfl, ?_⟩))
   go_roundg k1
   case measure => have := HK1.out; omega
   case rel => exact ⟨(y243), (t246), (by first | rfl | (simp; done) | (simp [*]; done)), H', ⟨by have := HK1.out; omega⟩, ⟨by (with_reducible repeat (first | apply Kd.R_alloc | apply Y6 | apply Y7)); exact Kd.R_mono HO245.out (fun _ hk => trivial)⟩, ⟨by repeat (with_reducible first | exact HB.out | apply Y3 | apply Y1 | apply Y2 | refine Y4 ?_ GE242.out)⟩⟩
def truffleref14_is.f (l0 : List (S29)) (a1 : Int) (a2 : ByteArray) : Option (Bool) := if a1 < (l0.length : Int) then (if 0 ≤ a1 then (if ((rd_T29 l0 a1).f0) = 3 then (some (((rd_T29 l0 a1).f1).toList == a2.toList)) else (some false)) else (none)) else (some false)
set_option maxHeartbeats 8000000 in
set_option maxRecDepth 100000 in
theorem truffleref14_is.calls (A0 : Option Addr) (c0 : Nat) (l0 : List (S29)) (a1 : Int) (a2 : ByteArray) (r : Bool) (w : World) (hr0 : Kd.C k29 w A0 l0.length l0) (hc0 : l0.length ≤ c0) (h : truffleref14_is.f l0 a1 a2 = some r) :
  Calls Tryd.prog 72 #[.slice A0 l0.length c0, .int .i64 a1, .string a2] w fun e w' => e = .returned (.bool r) ∧ Drawn0 w w' := by
 have HR0 := Y0 hr0
 have HC0 := Y0 hc0
 clear hr0 hc0
 have H : (if a1 < (l0.length : Int) then (if 0 ≤ a1 then (if ((rd_T29 l0 a1).f0) = 3 then (some (((rd_T29 l0 a1).f1).toList == a2.toList)) else (some false)) else (none)) else (some false)) = some r := h
 clear h
 by_cases c4 : a1 < (l0.length : Int)
 rotate_left
 ·rw [if_neg c4] at H
  have c4b0 : decide (a1 < (l0.length : Int)) = false := decide_eq_false c4
  clear c4
  obtain rfl := Option.some.inj H
  go_enter Tryd.func72, Tryd.ntmps72
  go_wp2
  go_ret
  exact ⟨by first | rfl | (simp; done) | (simp [*]; done), by repeat (first | exact Drawn0.refl _ | apply Drawn0.step)⟩
 rw [if_pos c4] at H
 have c4b0 : decide (a1 < (l0.length : Int)) = true := decide_eq_true c4
 clear c4
 by_cases c5 : 0 ≤ a1
 rotate_left
 ·rw [if_neg c5] at H
  exact absurd H (by simp)
 rw [if_pos c5] at H
 have c5b0 : decide (0 ≤ a1) = true := decide_eq_true c5
 clear c5
 by_cases c6 : ((rd_T29 l0 a1).f0) = 3
 rotate_left
 ·rw [if_neg c6] at H
  have c6b0 : (((rd_T29 l0 a1).f0) == 3) = false := beq_eq_false_iff_ne.mpr c6
  have c6b1 : (((rd_T29 l0 a1).f0) != 3) = true := bne_iff_ne.mpr c6
  obtain rfl := Option.some.inj H
  have p357 : 0 ≤ (a1 : Int) := of_decide_eq_true (by first | (with_reducible assumption) | assumption)
  have q357 : a1 < (l0.length : Int) := of_decide_eq_true (by first | (with_reducible assumption) | assumption)
  obtain ⟨ad357, e357, hx357_0, hx357_1, hx357_2, hx357_3⟩ := at_T29 HR0.out a1 p357 q357
  cases e357
  replace p357 := eq_true p357
  replace q357 := eq_true q357
  go_enter Tryd.func72, Tryd.ntmps72
  go_wp2
  go_ret
  exact ⟨by first | rfl | (simp; done) | (simp [*]; done), by repeat (first | exact Drawn0.refl _ | apply Drawn0.step)⟩
 rw [if_pos c6] at H
 have c6b0 : (((rd_T29 l0 a1).f0) == 3) = true := beq_iff_eq.mpr c6
 have c6b1 : (((rd_T29 l0 a1).f0) != 3) = false := bne_eq_false_iff_eq.mpr c6
 clear c6
 obtain rfl := Option.some.inj H
 have p357 : 0 ≤ (a1 : Int) := of_decide_eq_true (by first | (with_reducible assumption) | assumption)
 have q357 : a1 < (l0.length : Int) := of_decide_eq_true (by first | (with_reducible assumption) | assumption)
 obtain ⟨ad357, e357, hx357_0, hx357_1, hx357_2, hx357_3⟩ := at_T29 HR0.out a1 p357 q357
 cases e357
 replace p357 := eq_true p357
 replace q357 := eq_true q357
 have p358 : 0 ≤ (a1 : Int) := of_decide_eq_true (by first | (with_reducible assumption) | assumption)
 have q358 : a1 < (l0.length : Int) := of_decide_eq_true (by first | (with_reducible assumption) | assumption)
 obtain ⟨ad358, e358, hx358_0, hx358_1, hx358_2, hx358_3⟩ := at_T29 HR0.out a1 p358 q358
 obtain rfl : ad357 = ad358 := (by injection e358)
 replace p358 := eq_true p358
 replace q358 := eq_true q358
 go_enter Tryd.func72, Tryd.ntmps72
 go_wp2
 go_ret
 exact ⟨by first | rfl | (simp; done) | (simp [*]; done), by repeat (first | exact Drawn0.refl _ | apply Drawn0.step)⟩
end Go.Proofs.YtngcojabofkbjaaDoor.P
