/- TokenPlaces, without Go: tokens begin one behind the other, each with the byte of its kind. -/
import Derived.Lib.ItoaMem
import Derived.Test.YtngcojabofkbjaaDoorPx0
import Derived.Test.YtngcojabofkbjaaDoorPx13
import Derived.Test.YtngcojabofkbjaaDoorGAwake
import Derived.Test.YtngcojabofkbjaaDoorGCat
import Derived.Test.YtngcojabofkbjaaDoorGFs
import Derived.Test.YtngcojabofkbjaaDoorGLex
import Derived.Test.YtngcojabofkbjaaDoorGWhile
namespace Go.Proofs.YtngcojabofkbjaaDoor.P
open Go.RowKit Go.Proofs.YtngcojabofkbjaaDoorW.PrintWords Go.Proofs.YtngcojabofkbjaaDoorW.PrintLast Go.Proofs.YtngcojabofkbjaaDoorW.PrintMore
attribute [local go_sem] max2_int min2_int max_two min_two max_three min_three max_four min_four   -- for this text's walks alone
set_option linter.unusedVariables false
set_option linter.unusedSimpArgs false

def goodT (s : ByteArray) (last : Int) (t : TokS) : Prop :=
  last < t.f3 ∧ t.f3 < s.size ∧ 0 ≤ t.f3 ∧ 0 ≤ t.f0 ∧ t.f0 < 4 ∧ (t.f0 = 2 ↔ bt s t.f3 = 34) ∧ (t.f0 ≠ 2 → t.f1.toList ≠ [] ∧ t.f3 + t.f1.size ≤ s.size ∧ (s.extract t.f3.toNat (t.f3.toNat + t.f1.size)).toList = t.f1.toList)
def chainT (s : ByteArray) : Int → List TokS → Prop
  | _, [] => True
  | last, t :: ts => goodT s last t ∧ chainT s t.f3 ts
theorem ofK_quote (c : UInt8) : ofK (c.toNat : Int) = 2 ↔ c = 34 := by
  have h : (c = 34) ↔ c.toNat = 34 := by rw [← UInt8.toNat_inj]; rfl
  rw [h]
  unfold ofK
  constructor
  · intro e
    split at e
    · omega
    · split at e
      · omega
      · split at e
        · omega
        · split at e <;> omega
  · intro e
    rw [e]; decide
theorem lex1_facts (c : UInt8) (r : List UInt8) (kd : Int) (t : List UInt8) (v : Int) (n : Nat) (h : lex1 (c :: r) = some (kd, t, v, n)) :
    0 ≤ kd ∧ kd < 4 ∧ (kd = 2 ↔ c = 34) ∧ (kd ≠ 2 → t = (c :: r).take n) := by
  have hq := ofK_quote c
  rw [lex1_cons] at h
  split at h
  · cases h
  · split at h
    · rename_i h0
      simp only [Option.some.injEq, Prod.mk.injEq] at h
      obtain ⟨rfl, rfl, rfl, rfl⟩ := h
      refine ⟨by decide, by decide, ?_, fun _ => rfl⟩
      rw [← hq, h0]
    · split at h
      · rename_i h1
        split at h
        · simp only [Option.some.injEq, Prod.mk.injEq] at h
          obtain ⟨rfl, rfl, rfl, rfl⟩ := h
          refine ⟨by decide, by decide, ?_, fun _ => rfl⟩
          rw [← hq, h1]
        · cases h
      · split at h
        · rename_i h2
          obtain ⟨⟨t', n'⟩, h3, h5⟩ := Option.map_eq_some_iff.mp h
          simp only [Prod.mk.injEq] at h5
          obtain ⟨rfl, rfl, rfl, rfl⟩ := h5
          exact ⟨by decide, by decide, ⟨fun _ => hq.mp h2, fun _ => rfl⟩, fun hk => absurd rfl hk⟩
        · rename_i h2
          simp only [Option.some.injEq, Prod.mk.injEq] at h
          obtain ⟨rfl, rfl, rfl, rfl⟩ := h
          refine ⟨by decide, by decide, ?_, fun _ => by simp⟩
          rw [← hq]
          exact ⟨fun e => absurd e (by decide), fun e => absurd e h2⟩
theorem chain_scan (s : ByteArray) : ∀ (d m p : Nat) (ts : List TokS) (last : Int), p ≤ s.size → s.size - p ≤ d → last < p → scan m p ((bl s).drop p) = .inl ts → chainT s last ts := by
  intro d
  induction d with
  | zero =>
    intro m p ts last hp hd hl h
    rw [List.drop_of_length_le (by rw [bl_length]; omega)] at h
    simp only [scan, skipN, List.drop_nil, lx_nil, Sum.inl.injEq] at h
    subst h; trivial
  | succ d ih =>
    intro m p ts last hp hd hl h
    unfold scan at h
    have hk := skipN_le false ((bl s).drop p)
    rw [List.length_drop, bl_length] at hk
    generalize skipN false ((bl s).drop p) = k at h hk
    rw [List.drop_drop] at h
    by_cases hlt : p + k < s.size
    · rw [drop_bl s (p + k) hlt, lx_cons] at h
      cases hx : lex1 (s[p + k] :: (bl s).drop (p + k + 1)) with
      | none => rw [hx] at h; cases h
      | some y =>
        obtain ⟨kd, t, v, n⟩ := y
        obtain ⟨n1, n2⟩ := lex1_le _ _ _ _ _ hx
        obtain ⟨k0, k1, k2, k3⟩ := lex1_facts _ _ _ _ _ _ hx
        rw [hx] at h
        simp only at h
        split at h
        · cases h
        · rw [← drop_bl s (p + k) hlt] at h n2 k3
          rw [List.length_drop, bl_length] at n2
          rw [List.drop_drop] at h
          cases hs : scan (m - 1) (p + k + n) ((bl s).drop (p + k + n)) with
          | inr e => rw [hs] at h; cases h
          | inl us =>
            rw [hs] at h
            simp only [preE, Sum.inl.injEq] at h
            subst h
            refine ⟨⟨by simp only; omega, by simp only; omega, by simp only; omega, k0, k1, ?_, ?_⟩, ih _ _ _ _ (by omega) (by omega) (by simp only; omega) hs⟩
            · simp only
              rw [bt_nat s (p + k) hlt, k2, ← UInt8.toNat_inj]
              show s[p + k].toNat = 34 ↔ _
              omega
            · intro hk2
              have e := k3 hk2
              have zt : t.length = n := by rw [e, List.length_take, List.length_drop, bl_length]; omega
              simp only [Int.toNat_natCast, toList_bl, blMk, extract_bl]
              have z2 : (⟨t.toArray⟩ : ByteArray).size = n := by rw [← bl_length, blMk, zt]
              rw [z2]
              refine ⟨fun h0 => ?_, by omega, ?_⟩
              · rw [h0] at zt; simp at zt; omega
              · rw [show p + k + n - (p + k) = n from by omega, ← e]
    · have : p + k = s.size := by omega
      rw [this, List.drop_of_length_le (by rw [bl_length]; omega), lx_nil] at h
      simp only [Sum.inl.injEq] at h
      subst h; trivial
theorem tp_loop (s : ByteArray) (hs : s.size ≤ 6000) : ∀ (suf pre : List TokS) (last : Int) (k : Nat), (pre ++ suf).length ≤ 1000 → chainT s last suf → 2 * suf.length + 1 < k → trufflelaw06_TokenPlaces.l0 k s (pre ++ suf) s.size last pre.length = some true := by
  intro suf
  induction suf with
  | nil =>
    intro pre last k hl hc hk
    obtain ⟨k, rfl⟩ : ∃ m, k = m + 1 := ⟨k - 1, by omega⟩
    simp only [trufflelaw06_TokenPlaces.l0]
    rw [if_neg (by simp), if_pos trivial, decide_eq_true (by omega)]
  | cons t suf ih =>
    intro pre last k hl hc hk
    obtain ⟨k, rfl⟩ : ∃ m, k = m + 1 + 1 := ⟨k - 2, by omega⟩
    obtain ⟨⟨g1, g2, g3, g4, g5, g6, g7⟩, hc2⟩ := hc
    have hlen : (pre ++ t :: suf).length = pre.length + suf.length + 1 := by simp; omega
    have e1 : (pre ++ t :: suf)[pre.length]? = some t := by simp
    have hn : trufflelaw06_TokenPlaces.l0 k s (pre ++ t :: suf) s.size t.f3 (pre.length + 1 : Nat) = some true := by
      have := ih (pre ++ [t]) t.f3 k (by simp at hl ⊢; omega) hc2 (by simp only [List.length_cons] at hk; omega)
      simpa using this
    have hw : wrap64 ((pre.length : Int) + 1) = ((pre.length + 1 : Nat) : Int) := by rw [wrap_small _ (by omega) (by omega)]; omega
    simp only [trufflelaw06_TokenPlaces.l0]
    rw [rd_at _ _ _ e1, if_pos (by omega), if_pos (by omega), if_neg (by omega), if_neg (by omega), if_neg (by omega), if_neg (by omega), if_pos g3, if_pos g2]
    have hb : ((t.f0 == 2) != (bt s t.f3 == 34)) = false := by
      by_cases h2 : t.f0 = 2
      · rw [h2, g6.mp h2]; rfl
      · have h3 : bt s t.f3 ≠ 34 := fun e => h2 (g6.mpr e)
        rw [beq_eq_false_iff_ne.mpr h2, beq_eq_false_iff_ne.mpr h3]; rfl
    rw [hb]
    simp only [trufflelaw06_TokenPlaces.j2]
    rw [if_neg (by decide), hw, hn]
    by_cases h2 : t.f0 = 2
    · rw [if_pos h2]
    · obtain ⟨q1, q2, q3⟩ := g7 h2
      have hz : wrap64 (t.f3 + (t.f1.size : Int)) = t.f3 + (t.f1.size : Int) := wrap_small _ (by omega) (by omega)
      rw [if_neg h2, if_neg q1, hz, if_neg (by omega), if_pos g3, if_pos (by omega), if_pos (by omega), show (t.f3 + (t.f1.size : Int)).toNat = t.f3.toNat + t.f1.size from by omega, if_pos q3]
theorem TokenPlaces : trufflelaw06_TokenPlaces.Pure := by
  intro a0 h0
  unfold trufflelaw06_TokenPlaces.f
  rw [awake_true]
  simp only [Option.bind_some, if_true]
  by_cases g0 : (a0.size : Int) > 6000
  · exact ⟨1, by rw [decide_eq_true g0]; simp [trufflelaw06_TokenPlaces.j0]⟩
  · obtain ⟨K, hK⟩ : ∃ K : Nat, 10000 < K := ⟨_, Nat.lt_succ_self _⟩
    refine ⟨K + 1, ?_⟩
    rw [decide_eq_false g0]
    simp only [trufflelaw06_TokenPlaces.j0]
    rw [if_neg (by decide)]
    by_cases g5 : a0.size > 5000
    · unfold token_All.f allF
      rw [if_pos g5]
      simp only [Option.bind_some]
      rw [if_neg (by decide), if_pos (by decide), if_pos (by decide), if_pos (by omega), if_neg (by decide)]
      rfl
    · rw [all_small a0 (by omega)]
      simp only [Option.bind_some]
      have hl := bl_length a0
      cases hB : scan 1000 0 (bl a0) with
      | inr e =>
        obtain ⟨p, e⟩ := e
        obtain ⟨he, h1, h2⟩ := scan_err _ _ _ _ _ _ (Nat.le_refl _) hB
        rw [show endL a0 [] (.inr (p, e)) = ([], (p : Int), e) from rfl, if_neg (by show ¬ e = 0; omega), if_pos (by show (([] : List TokS).length : Int) = 0; rfl), if_pos (by show (p : Int) ≥ 0; omega), if_pos (by show (p : Int) < _; omega)]
        rcases he with rfl | rfl
        · rw [if_pos (by rfl)]
        · rw [if_neg (by show ¬ (2 : Int) = 4; decide)]; rfl
      | inl us =>
        obtain ⟨m1, m2⟩ := scan_len _ _ _ _ _ (Nat.le_refl _) hB
        have hc := chain_scan a0 a0.size 1000 0 us (-1) (by omega) (by omega) (by omega) (by rw [List.drop_zero]; exact hB)
        rw [show endL a0 [] (.inl us) = (us, (a0.size : Int), 0) from rfl, if_pos rfl]
        exact tp_loop a0 (by omega) us [] (-1) K (by simpa using m2) hc (by omega)

end Go.Proofs.YtngcojabofkbjaaDoor.P
