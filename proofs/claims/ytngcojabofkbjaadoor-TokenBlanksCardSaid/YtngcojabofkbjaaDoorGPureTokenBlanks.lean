/- TokenBlanks, without Go: blanks ahead move the tokens, blanks behind do nothing. -/
import Derived.Lib.ItoaMem
import Derived.Test.YtngcojabofkbjaaDoorPx0
import Derived.Test.YtngcojabofkbjaaDoorPx8
import Derived.Test.YtngcojabofkbjaaDoorGAwake
import Derived.Test.YtngcojabofkbjaaDoorGCat
import Derived.Test.YtngcojabofkbjaaDoorGLex
import Derived.Test.YtngcojabofkbjaaDoorGSameR
namespace Go.Proofs.YtngcojabofkbjaaDoor.P
open Go.RowKit Go.Proofs.YtngcojabofkbjaaDoorW.PrintWords Go.Proofs.YtngcojabofkbjaaDoorW.PrintLast Go.Proofs.YtngcojabofkbjaaDoorW.PrintMore
attribute [local go_sem] max2_int min2_int max_two min_two max_three min_three max_four min_four   -- for this text's walks alone
set_option linter.unusedVariables false
set_option linter.unusedSimpArgs false

def padP (b : ByteArray) : Prop := ∀ r, skipN false (bl b ++ r) = b.size + skipN false r
theorem padP_base : padP ⟨#[47, 47, 32, 120, 10]⟩ := by
  intro r
  show skipN false (47 :: 47 :: 32 :: 120 :: 10 :: r) = 5 + skipN false r
  simp [skipN, blankB]
  omega
theorem padP_add (b : ByteArray) (c : ByteArray) (x : UInt8) (hc : bl c = [x]) (hx : blankB x = true) (h : padP b) : padP (b ++ c) := by
  intro r
  rw [bl_app, hc, List.append_assoc, h]
  simp only [List.cons_append, List.nil_append, skipN_f, hx, if_true]
  have : (b ++ c).size = b.size + 1 := by rw [← bl_length, bl_app, hc, List.length_append, bl_length]; rfl
  omega
theorem pad_byte (r : Nat) (h : r < 4) : ∃ x, bl ((⟨#[32, 9, 10, 13]⟩ : ByteArray).extract r (r + 1)) = [x] ∧ blankB x = true := by
  rw [extract_bl]
  have e : bl (⟨#[32, 9, 10, 13]⟩ : ByteArray) = [32, 9, 10, 13] := rfl
  rw [e]
  have hr : r = 0 ∨ r = 1 ∨ r = 2 ∨ r = 3 := by omega
  rcases hr with rfl | rfl | rfl | rfl
  · exact ⟨32, rfl, rfl⟩
  · exact ⟨9, rfl, rfl⟩
  · exact ⟨10, rfl, rfl⟩
  · exact ⟨13, rfl, rfl⟩
theorem tb_l1 (x : ByteArray) (hx : x.size ≤ 1000) (us : List TokS) (hu : us.length ≤ 1000) (hp : ∀ t ∈ us, 0 ≤ t.f3 ∧ t.f3 ≤ 1000000) : ∀ d k i : Nat, i ≤ us.length → us.length - i ≤ d → d + 2000 < k →
    trufflelaw06_TokenBlanks.l1 k x us (us.take i ++ (us.drop i).map (shT x.size)) i = some true := by
  intro d
  induction d with
  | zero =>
    intro k i hi hd hk
    obtain ⟨k, rfl⟩ : ∃ m, k = m + 1 := ⟨k - 1, by omega⟩
    obtain rfl : i = us.length := by omega
    simp only [trufflelaw06_TokenBlanks.l1]
    rw [if_neg (by omega), List.take_length, List.drop_length, List.map_nil, List.append_nil, same_self us (by omega) k (by omega)]
    rfl
  | succ d ih =>
    intro k i hi hd hk
    obtain ⟨k, rfl⟩ : ∃ m, k = m + 1 := ⟨k - 1, by omega⟩
    simp only [trufflelaw06_TokenBlanks.l1]
    by_cases hlt : i < us.length
    · have hl : (us.take i ++ (us.drop i).map (shT x.size)).length = us.length := by simp; omega
      have hd2 : us.drop i = us[i] :: us.drop (i + 1) := List.drop_eq_getElem_cons hlt
      have ht : (us.take i).length = i := by simp; omega
      have e1 : (us.take i ++ (us.drop i).map (shT x.size))[i]? = some (shT x.size us[i]) := by
        rw [List.getElem?_append_right (by omega), ht, Nat.sub_self, hd2]; rfl
      obtain ⟨q1, q2⟩ := hp us[i] (List.getElem_mem hlt)
      rw [if_pos (by omega), if_pos (by omega), hl, if_pos (by omega), rd_at _ i _ e1, Int.toNat_natCast]
      have e2 : (⟨(shT x.size us[i]).f0, (shT x.size us[i]).f1, (shT x.size us[i]).f2, wrap64 ((shT x.size us[i]).f3 - (x.size : Int))⟩ : TokS) = us[i] := by
        show (⟨us[i].f0, us[i].f1, us[i].f2, wrap64 (us[i].f3 + (x.size : Int) - (x.size : Int))⟩ : TokS) = us[i]
        rw [wrap_small _ (by omega) (by omega), show us[i].f3 + (x.size : Int) - (x.size : Int) = us[i].f3 from by omega]
      have e3 : (us.take i ++ (us.drop i).map (shT x.size)).set i us[i] = us.take (i + 1) ++ (us.drop (i + 1)).map (shT x.size) := by
        rw [List.set_append_right _ _ (by omega), ht, Nat.sub_self, hd2, List.map_cons, List.set_cons_zero, List.take_succ_eq_append_getElem hlt, List.append_assoc]
        rfl
      rw [e2, e3, wrap_small _ (by omega) (by omega)]
      exact ih k (i + 1) (by omega) (by omega) (by omega)
    · obtain rfl : i = us.length := by omega
      rw [if_neg (by omega), List.take_length, List.drop_length, List.map_nil, List.append_nil, same_self us (by omega) k (by omega)]
      rfl
theorem scan_pad (b : ByteArray) (h : padP b) (l : List UInt8) : scan 1000 0 (bl b ++ l) = shE b.size (scan 1000 0 l) := by
  rw [← scan_shift]
  unfold scan
  rw [h l, ← bl_length, ← List.drop_drop, List.drop_left, show 0 + ((bl b).length + skipN false l) = 0 + (bl b).length + skipN false l from by omega]
theorem scan_pad_nil (b : ByteArray) (h : padP b) (m p : Nat) : scan m p (bl b) = .inl [] := by
  have := h []
  rw [List.append_nil] at this
  unfold scan
  rw [this]
  simp only [skipN, Nat.add_zero]
  rw [← bl_length, List.drop_length, lx_nil]
theorem tb_end (s x : ByteArray) (hs : s.size ≤ 1000) (hx : x.size ≤ 1000) (hp : padP x) (n : Int) (k i : Nat) (hk : 10000 < k) (hi : ¬ ((i : Int) < n)) : trufflelaw06_TokenBlanks.l0 (k + 2) s n x i = some true := by
  have z1 : (x ++ s).size = x.size + s.size := by rw [← bl_length, bl_app, List.length_append, bl_length, bl_length]
  have z2 := join_size s x
  have z3 := lf_size s
  have hls := bl_length s
  simp only [trufflelaw06_TokenBlanks.l0]
  rw [if_neg hi, all_small s (by omega), all_small (x ++ s) (by omega), all_small ((s ++ (⟨#[10]⟩ : ByteArray)) ++ x) (by omega)]
  simp only [Option.bind_some]
  rw [if_pos (by omega), if_pos (by omega), if_pos (by omega), bl_app, scan_pad x hp, join_bl]
  cases hB : scan 1000 0 (bl s) with
  | inr e =>
    obtain ⟨p, e⟩ := e
    have he := scan_err _ _ _ _ _ _ (Nat.le_refl _) hB
    rw [show endL s [] (.inr (p, e)) = ([], (p : Int), e) from rfl, show endL (x ++ s) [] (shE x.size (.inr (p, e))) = ([], ((p + x.size : Nat) : Int), e) from rfl]
    rw [if_pos rfl, if_neg (by show ¬ e = 0; omega), if_pos (by show ((p + x.size : Nat) : Int) = wrap64 ((p : Int) + (x.size : Int)); rw [wrap_small ((p : Int) + (x.size : Int)) (by omega) (by omega)]; omega)]
    simp only [trufflelaw06_TokenBlanks.j2]
    rw [if_neg (by simp)]
    exact tb_l1 x hx [] (by simp) (by simp) 0 k 0 (by simp) (by simp) (by omega)
  | inl us =>
    obtain ⟨m1, m2⟩ := scan_len _ _ _ _ _ (Nat.le_refl _) hB
    have hat := scan_at _ _ _ _ _ (Nat.le_refl _) hB
    rw [scan_lf (bl x) _ _ _ _ _ (Nat.le_refl _) hB, scan_pad_nil x hp]
    rw [show endL s [] (.inl us) = (us, (s.size : Int), 0) from rfl, show endL (x ++ s) [] (shE x.size (.inl us)) = (us.map (shT x.size), ((x ++ s).size : Int), 0) from rfl, show endL (s ++ (⟨#[10]⟩ : ByteArray) ++ x) [] (preE us (.inl [])) = (us ++ [], ((s ++ (⟨#[10]⟩ : ByteArray) ++ x).size : Int), 0) from rfl]
    rw [if_pos rfl, if_pos rfl, if_pos rfl, List.append_nil, same_self us (by omega) _ (by omega)]
    simp only [Option.bind_some, if_true, trufflelaw06_TokenBlanks.j2]
    rw [if_neg (by simp)]
    exact tb_l1 x hx us (by omega) (fun t ht => by have := hat t ht; omega) us.length k 0 (by omega) (by omega) (by omega)
theorem tb_loop (s : ByteArray) (hs : s.size ≤ 1000) (n : Int) (hn : n ≤ 100) : ∀ d k i : Nat, ∀ x : ByteArray, padP x → x.size ≤ 5 + i → i ≤ 100 → n.toNat - i ≤ d → d + 10002 < k → trufflelaw06_TokenBlanks.l0 k s n x i = some true := by
  intro d
  induction d with
  | zero =>
    intro k i x hp hx hi hd hk
    obtain ⟨k, rfl⟩ : ∃ m, k = m + 2 := ⟨k - 2, by omega⟩
    exact tb_end s x hs (by omega) hp n k i (by omega) (by omega)
  | succ d ih =>
    intro k i x hp hx hi hd hk
    by_cases hlt : (i : Int) < n
    · obtain ⟨k, rfl⟩ : ∃ m, k = m + 1 := ⟨k - 1, by omega⟩
      simp only [trufflelaw06_TokenBlanks.l0]
      have hm : Int.tmod (i : Int) 4 = ((i % 4 : Nat) : Int) := by rw [Int.tmod_eq_emod_of_nonneg (by omega)]; omega
      have hr : i % 4 < 4 := Nat.mod_lt _ (by omega)
      have hw : wrap64 (((i % 4 : Nat) : Int) + 1) = ((i % 4 + 1 : Nat) : Int) := by rw [wrap_small _ (by omega) (by omega)]; omega
      rw [if_pos hlt, hm, hw, Int.toNat_natCast, Int.toNat_natCast]
      obtain ⟨c, hc1, hc2⟩ := pad_byte (i % 4) hr
      generalize (⟨#[32, 9, 10, 13]⟩ : ByteArray).extract (i % 4) (i % 4 + 1) = e at hc1 ⊢
      have hz : e.size = 1 := by rw [← bl_length, hc1]; rfl
      have hz2 : (x ++ e).size = x.size + 1 := by rw [← bl_length, bl_app, hc1, List.length_append, bl_length]; rfl
      rw [if_pos (by omega), if_pos (by omega), if_pos (by omega), if_pos (by omega), wrap_small _ (by omega) (by omega)]
      exact ih k (i + 1) (x ++ e) (padP_add x e c hc1 hc2 hp) (by omega) (by omega) (by omega) (by omega)
    · obtain ⟨k, rfl⟩ : ∃ m, k = m + 2 := ⟨k - 2, by omega⟩
      exact tb_end s x hs (by omega) hp n k i (by omega) hlt
theorem TokenBlanks : trufflelaw06_TokenBlanks.Pure := by
  intro a0 a1 h0 h1
  unfold trufflelaw06_TokenBlanks.f
  rw [awake_true]
  simp only [Option.bind_some, if_true]
  by_cases g0 : (a0.size : Int) > 1000
  · exact ⟨1, by rw [if_pos g0]; simp [trufflelaw06_TokenBlanks.j0]⟩
  · by_cases g1 : a1 < 0
    · exact ⟨1, by rw [if_neg g0, if_pos g1]; simp [trufflelaw06_TokenBlanks.j0]⟩
    · by_cases g2 : a1 > 100
      · exact ⟨1, by rw [if_neg g0, if_neg g1, decide_eq_true g2]; simp [trufflelaw06_TokenBlanks.j0]⟩
      · obtain ⟨K, hK⟩ : ∃ K : Nat, 20000 < K := ⟨_, Nat.lt_succ_self _⟩
        refine ⟨K + 1, ?_⟩
        rw [if_neg g0, if_neg g1, decide_eq_false g2]
        simp only [trufflelaw06_TokenBlanks.j0]
        rw [if_neg (by decide)]
        exact tb_loop a0 (by omega) a1 (by omega) 100 K 0 _ padP_base (by decide) (by omega) (by omega) (by omega)

end Go.Proofs.YtngcojabofkbjaaDoor.P
