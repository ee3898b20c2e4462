/- Part 6 of what the law ProtoBack leans on: contracts of the functions that it reaches, and plain lemmas; printed walks and words (by the kit's print, through wip/mp.py) and the session's own texts, one behind the other, what is not used left out (wip/prune.py). -/
import Derived.Lib.ItoaMem
import Derived.Deep.DeepWitnessRowRef
import Derived.Stop.LaidErr
import Derived.Lib.LaidTab
import Derived.LaidLaws
import Derived.MakeChecks
import Derived.Test.YtddpjjhekhompaaGreatDoorRows
import Derived.Test.YtddpjjhekhompaaGreatDoorMProtoBack1
import Derived.Test.YtddpjjhekhompaaGreatDoorMProtoBack2
import Derived.Test.YtddpjjhekhompaaGreatDoorMProtoBack3
import Derived.Test.YtddpjjhekhompaaGreatDoorMProtoBack4
import Derived.Test.YtddpjjhekhompaaGreatDoorMProtoBack5
namespace Go.Proofs.YtddpjjhekhompaaGreatDoor.P
open Go.RowKit Go.Proofs.YtddpjjhekhompaaGreatDoorW.PrintWords Go.Proofs.YtddpjjhekhompaaGreatDoorW.PrintLast Go.Proofs.YtddpjjhekhompaaGreatDoorW.PrintMore
set_option linter.unusedVariables false
set_option linter.unusedSimpArgs false
theorem pbk_end (s : ByteArray) (hs : s.size ≤ 1500) (h0 : (parseF s).2.2 = 0) (ho : onesIn (parseF s).1.1) (k : Nat) (i : Int) (hi : ¬ i < ((parseF s).1.1.length : Int)) : trufflelaw07_ProtoBack.l0 (k + 1) i (parseF s).1.1 (parseF s).1.2 = some true := by
  obtain ⟨h1, h2⟩ := back_all s hs h0 ho
  simp only [trufflelaw07_ProtoBack.l0]
  rw [if_neg hi]
  unfold proto_Print.f
  rw [if_pos h1, Option.bind_some]
  generalize ht : (⟨(printL (parseF s).1.1 (parseF s).1.2).toArray⟩ : ByteArray) = t at *
  have hbl : bl t = printL (parseF s).1.1 (parseF s).1.2 := by rw [← ht]
  simp only [proto_Parse.f, Option.bind_some]
  by_cases hz : (t.size : Int) > 5000
  · rw [if_pos hz]
  · rw [if_neg hz]
    obtain ⟨g1, g2, g3, g4⟩ := h2 t hbl (by omega)
    rw [if_pos g1]
    simp only [proto_Same.f, Option.bind_some]
    rw [g2, if_pos rfl, if_pos g3, Option.bind_some, g4, ht, beq_self_eq_true]
theorem pbk_rd {α : Type} (z : α) (l : List α) (i : Nat) (h : i < l.length) : l.getD (i : Int).toNat z = l[i] := by
  rw [Int.toNat_natCast, List.getD_eq_getElem?_getD]
  simp [h]
theorem pbk_l2 (M : List MsgS) (E : List EnumS) (i : Nat) (hi : i < M.length) (hf : M[i].f1.length ≤ 1000) (o : Int) (K : Nat)
    (hn : (∃ g ∈ M[i].f1, g.f3 = o) → ∀ k, K ≤ k → trufflelaw07_ProtoBack.l1 k i (wrap64 (o + 1)) M E = some true) :
    ∀ (d j : Nat) (has : Bool), M[i].f1.length - j ≤ d → j ≤ M[i].f1.length → (has = true → ∃ g ∈ M[i].f1, g.f3 = o) → ∀ k, K + d + 1 ≤ k → trufflelaw07_ProtoBack.l2 k i o has j M E = some true := by
  intro d
  induction d with
  | zero =>
    intro j has hd hj hh k hk
    obtain ⟨k, rfl⟩ : ∃ m, k = m + 1 := ⟨k - 1, by omega⟩
    simp only [trufflelaw07_ProtoBack.l2]
    rw [if_pos (by omega), if_pos (by omega)]
    have e : rd_T34 M (i : Int) = M[i] := pbk_rd _ M i hi
    rw [e, if_neg (by omega)]
    cases has with
    | true => rw [if_pos rfl]; exact hn (hh rfl) k (by omega)
    | false => rw [if_neg Bool.false_ne_true]
  | succ d ih =>
    intro j has hd hj hh k hk
    obtain ⟨k, rfl⟩ : ∃ m, k = m + 1 := ⟨k - 1, by omega⟩
    simp only [trufflelaw07_ProtoBack.l2]
    rw [if_pos (by omega), if_pos (by omega)]
    have e : rd_T34 M (i : Int) = M[i] := pbk_rd _ M i hi
    rw [e]
    by_cases hlt : j < M[i].f1.length
    · have hw : wrap64 ((j : Int) + 1) = ((j + 1 : Nat) : Int) := by unfold wrap64; omega
      rw [if_pos (by omega), hw]
      cases has with
      | true => rw [if_pos rfl]; exact ih (j + 1) true (by omega) (by omega) hh k (by omega)
      | false =>
        rw [if_neg Bool.false_ne_true, if_pos (by omega)]
        have e2 : rd_T36 M[i].f1 (j : Int) = M[i].f1[j] := pbk_rd _ _ j hlt
        rw [e2]
        refine ih (j + 1) _ (by omega) (by omega) (fun hb => ?_) k (by omega)
        exact ⟨M[i].f1[j], List.getElem_mem hlt, by simpa using hb⟩
    · rw [if_neg (by omega)]
      cases has with
      | true => rw [if_pos rfl]; exact hn (hh rfl) k (by omega)
      | false => rw [if_neg Bool.false_ne_true]
theorem pbk_l1 (M : List MsgS) (E : List EnumS) (i : Nat) (hi : i < M.length) (hf : M[i].f1.length ≤ 1000) (ho : M[i].f2.length ≤ 1000) (K : Nat)
    (hn : (∀ o : Int, 1 ≤ o → o ≤ M[i].f2.length → ∃ g ∈ M[i].f1, g.f3 = o) → ∀ k, K ≤ k → trufflelaw07_ProtoBack.l0 k (wrap64 ((i : Int) + 1)) M E = some true) :
    ∀ (d : Nat) (o : Int), (M[i].f2.length : Int) + 1 - o ≤ d → 1 ≤ o → o ≤ (M[i].f2.length : Int) + 1 → (∀ p : Int, 1 ≤ p → p < o → ∃ g ∈ M[i].f1, g.f3 = p) → ∀ k, K + d * 1003 + 1 ≤ k → trufflelaw07_ProtoBack.l1 k i o M E = some true := by
  intro d
  induction d with
  | zero =>
    intro o hd h1 h2 hh k hk
    obtain ⟨k, rfl⟩ : ∃ m, k = m + 1 := ⟨k - 1, by omega⟩
    simp only [trufflelaw07_ProtoBack.l1]
    have e : rd_T34 M (i : Int) = M[i] := pbk_rd _ M i hi
    rw [if_pos (by omega), if_pos (by omega), e, if_neg (by omega)]
    exact hn (fun p q1 q2 => hh p q1 (by omega)) k (by omega)
  | succ d ih =>
    intro o hd h1 h2 hh k hk
    obtain ⟨k, rfl⟩ : ∃ m, k = m + 1 := ⟨k - 1, by omega⟩
    simp only [trufflelaw07_ProtoBack.l1]
    have e : rd_T34 M (i : Int) = M[i] := pbk_rd _ M i hi
    rw [if_pos (by omega), if_pos (by omega), e]
    by_cases hle : o ≤ (M[i].f2.length : Int)
    · rw [if_pos hle]
      have hw : wrap64 (o + 1) = o + 1 := by unfold wrap64; omega
      refine pbk_l2 M E i hi hf o (K + d * 1003 + 1) (fun hg k' hk' => ?_) 1000 0 false (by omega) (by omega) (fun h => by cases h) k (by omega)
      rw [hw]
      refine ih (o + 1) (by omega) (by omega) (by omega) (fun p q1 q2 => ?_) k' hk'
      by_cases hp : p = o
      · rw [hp]; exact hg
      · exact hh p q1 (by omega)
    · rw [if_neg hle]
      exact hn (fun p q1 q2 => hh p q1 (by omega)) k (by omega)
theorem pbk_l0 (s : ByteArray) (hs : s.size ≤ 1500) (h0 : (parseF s).2.2 = 0) : ∀ (d i : Nat), (parseF s).1.1.length - i ≤ d → i ≤ (parseF s).1.1.length → (∀ m ∈ (parseF s).1.1.take i, ∀ o : Int, 1 ≤ o → o ≤ m.f2.length → ∃ g ∈ m.f1, g.f3 = o) → ∃ K, ∀ k, K ≤ k → trufflelaw07_ProtoBack.l0 k i (parseF s).1.1 (parseF s).1.2 = some true := by
  obtain ⟨b1, b2⟩ := parse_small s hs h0
  intro d
  induction d with
  | zero =>
    intro i hd hi hh
    refine ⟨1, fun k hk => ?_⟩
    obtain ⟨k, rfl⟩ : ∃ m, k = m + 1 := ⟨k - 1, by omega⟩
    rw [List.take_of_length_le (by omega)] at hh
    exact pbk_end s hs h0 hh k i (by omega)
  | succ d ih =>
    intro i hd hi hh
    by_cases hlt : i < (parseF s).1.1.length
    · obtain ⟨c1, c2⟩ := b2 _ (List.getElem_mem hlt)
      have hw : wrap64 ((i : Int) + 1) = ((i + 1 : Nat) : Int) := by unfold wrap64; omega
      have hK : ∃ K, (∀ o : Int, 1 ≤ o → o ≤ (parseF s).1.1[i].f2.length → ∃ g ∈ (parseF s).1.1[i].f1, g.f3 = o) → ∀ k, K ≤ k → trufflelaw07_ProtoBack.l0 k (wrap64 ((i : Int) + 1)) (parseF s).1.1 (parseF s).1.2 = some true := by
        by_cases hg : ∀ o : Int, 1 ≤ o → o ≤ (parseF s).1.1[i].f2.length → ∃ g ∈ (parseF s).1.1[i].f1, g.f3 = o
        · obtain ⟨K, hK⟩ := ih (i + 1) (by omega) (by omega) (fun m hm => by
            rw [List.take_succ_eq_append_getElem hlt] at hm
            rcases List.mem_append.1 hm with hm | hm
            · exact hh m hm
            · obtain rfl := List.mem_singleton.1 hm
              exact hg)
          exact ⟨K, fun _ k hk => by rw [hw]; exact hK k hk⟩
        · exact ⟨0, fun h => absurd h hg⟩
      obtain ⟨K, hK⟩ := hK
      have hl1 := pbk_l1 _ _ i hlt c1 c2 K hK (parseF s).1.1[i].f2.length 1 (by omega) (by omega) (by omega) (fun p q1 q2 => by omega)
      generalize (parseF s).1.1[i].f2.length * 1003 = C at hl1
      refine ⟨K + C + 2, fun k hk => ?_⟩
      obtain ⟨k, rfl⟩ : ∃ m, k = m + 1 := ⟨k - 1, by omega⟩
      simp only [trufflelaw07_ProtoBack.l0]
      rw [if_pos (by omega)]
      exact hl1 k (by omega)
    · refine ⟨1, fun k hk => ?_⟩
      obtain ⟨k, rfl⟩ : ∃ m, k = m + 1 := ⟨k - 1, by omega⟩
      rw [List.take_of_length_le (by omega)] at hh
      exact pbk_end s hs h0 hh k i (by omega)
theorem ProtoBack : trufflelaw07_ProtoBack.Pure := by
  intro s hw
  by_cases h1 : (s.size : Int) > 1500
  · refine ⟨1, ?_⟩
    unfold trufflelaw07_ProtoBack.f
    rw [awake07_true, Option.bind_some, if_pos rfl, decide_eq_true h1]
    simp only [trufflelaw07_ProtoBack.j0, if_true]
  · by_cases h0 : (parseF s).2.2 = 0
    · obtain ⟨K, hK⟩ := pbk_l0 s (by omega) h0 (parseF s).1.1.length 0 (by omega) (by omega) (fun m hm => by rw [List.take_zero] at hm; exact absurd hm List.not_mem_nil)
      refine ⟨K + 1, ?_⟩
      unfold trufflelaw07_ProtoBack.f
      rw [awake07_true, Option.bind_some, if_pos rfl, decide_eq_false h1]
      simp only [trufflelaw07_ProtoBack.j0]
      rw [if_neg Bool.false_ne_true]
      simp only [proto_Parse.f, Option.bind_some]
      rw [if_pos h0]
      exact hK K (Nat.le_refl _)
    · refine ⟨1, ?_⟩
      unfold trufflelaw07_ProtoBack.f
      rw [awake07_true, Option.bind_some, if_pos rfl, decide_eq_false h1]
      simp only [trufflelaw07_ProtoBack.j0]
      rw [if_neg Bool.false_ne_true]
      simp only [proto_Parse.f, Option.bind_some]
      rw [if_neg h0, parse_err s h0]
      rfl
end Go.Proofs.YtddpjjhekhompaaGreatDoor.P
namespace Go.Proofs.YtddpjjhekhompaaGreatDoor.laidKit
open Go.RowKit
abbrev lst : List (String × DataW Unit) := [("math/bits.deBruijn32tab", Rows.laid_math_bits_deBruijn32tab), ("math/bits.deBruijn64tab", Rows.laid_math_bits_deBruijn64tab), ("internal/strconv.uint64pow10", Rows.laid_internal_strconv_uint64pow10), ("strconv.ErrRange", Rows.laid_strconv_ErrRange), ("strconv.ErrSyntax", Rows.laid_strconv_ErrSyntax)]
theorem gPow : Tryz.prog.globalNamed "internal/strconv.uint64pow10" = some 0 := by kernel_rfl
theorem gPowT : (Tryz.prog.globals[0]?).map (·.type) = some 249 := by kernel_rfl
theorem cPow : Tryz.prog.cellsOf 249 = 20 := by kernel_rfl
theorem cU64 : Tryz.prog.cellsOf 218 = 1 := by kernel_rfl
theorem gRng : Tryz.prog.globalNamed "strconv.ErrRange" = some 2 := by kernel_rfl
theorem gRngT : (Tryz.prog.globals[2]?).map (·.type) = some 162 := by kernel_rfl
theorem gSyn : Tryz.prog.globalNamed "strconv.ErrSyntax" = some 1 := by kernel_rfl
theorem gSynT : (Tryz.prog.globals[1]?).map (·.type) = some 162 := by kernel_rfl
theorem cErr : Tryz.prog.cellsOf 267 = 1 := by kernel_rfl
theorem cStr : Tryz.prog.cellsOf 9 = 1 := by kernel_rfl
theorem star : "*" ++ "errors.errorString" = "*errors.errorString" := by decide
theorem rowErr (u : TypeId) (h : Tryz.prog.typeName? 3 u = some "*errors.errorString") : u = 265 :=
  typeName_ptr_named (nm := "errors.errorString") (by rw [star]; kernel_rfl) (by kernel_rfl) (by decide) u (by rw [star]; exact h)
theorem pow_is : (Rows.laid_internal_strconv_uint64pow10 : DataW Unit) = Lib.tabData .u64 Lib.pow10Tab := by rfl
theorem ginv {W : World} (h : laidMetH Tryz.prog lst W) : P.GInv W := by
  rw [Go.MakeChecks.laidMetH_plain _ _ _ (by kernel_rfl)] at h
  have h3 := h.tail.tail
  have hp : Lib.TabIs Tryz.prog W "internal/strconv.uint64pow10" .u64 Lib.pow10Tab :=
    Lib.tabIs_of_head gPow gPowT Tryz.underlying249 Tryz.underlying218 cU64 cPow (by rw [← pow_is]; exact h3)
  obtain ⟨a1, s1, hv1, _, _, _⟩ := laid_sentinel h3.tail gRng gRngT Tryz.underlying162 rowErr Tryz.underlying265 Tryz.underlying267 rfl rfl Tryz.underlying9 cErr cStr
  obtain ⟨a2, s2, hv2, _, _, _⟩ := laid_sentinel h3.tail.tail gSyn gSynT Tryz.underlying162 rowErr Tryz.underlying265 Tryz.underlying267 rfl rfl Tryz.underlying9 cErr cStr
  refine ⟨⟨_, _, by have h0 := World.var?_cell gSyn hv2 0; simpa using h0⟩, ⟨_, _, by have h0 := World.var?_cell gRng hv1 0; simpa using h0⟩, hp, ?_⟩
  have c0 := hp.cell gPow 0 (by decide)
  exact World.block_lt_of_cell? W _ c0
abbrev synS : ByteArray := { data := #[105, 110, 118, 97, 108, 105, 100, 32, 115, 121, 110, 116, 97, 120] }
abbrev rngS : ByteArray := { data := #[118, 97, 108, 117, 101, 32, 111, 117, 116, 32, 111, 102, 32, 114, 97, 110, 103, 101] }
def cellsOfData : DataW Unit → Array Value
  | .agg l => (l.map fun
      | .lit (.int k n) => Value.int k n
      | _ => .nilIface).toArray
  | _ => #[]
noncomputable def low : Nat := (World.holding Tryz.prog default ⟨#[], #[], []⟩).heap.size
noncomputable def laidWorld (os : Os) : World :=
  let w0 := World.holding Tryz.prog os ⟨#[.cells #[.string synS] 267, .cells #[.string rngS] 267], #[], []⟩
  { w0 with heap := ((((w0.heap.modify 0 fun
      | .cells _ t frozen => .cells (cellsOfData Rows.laid_internal_strconv_uint64pow10) t frozen
      | o => o).modify 1 fun
      | .cells _ t frozen => .cells #[.iface 265 (.pointer (some ⟨low, 0, none⟩))] t frozen
      | o => o).modify 2 fun
      | .cells _ t frozen => .cells #[.iface 265 (.pointer (some ⟨low + 1, 0, none⟩))] t frozen
      | o => o).modify 4 fun
      | .cells _ t frozen => .cells (cellsOfData Rows.laid_math_bits_deBruijn32tab) t frozen
      | o => o).modify 5 fun
      | .cells _ t frozen => .cells (cellsOfData Rows.laid_math_bits_deBruijn64tab) t frozen
      | o => o }
theorem laid_met (os : Os) (args : Array Value) : laidMet Tryz.prog lst ((laidWorld os).forCall (fun _ _ => 0) ⟨#[], args, []⟩).memory :=
  laidMet_of_run' 8 (by kernel_rfl) (by kernel_rfl)
end Go.Proofs.YtddpjjhekhompaaGreatDoor.laidKit
