/- TokenJoin, without Go: of two texts with a line feed between the tokens are those of both. -/
import Derived.Test.YtngcojabofkbjaaDoorPx0
import Derived.Test.YtngcojabofkbjaaDoorPx14
import Derived.Test.YtngcojabofkbjaaDoorGAwake
import Derived.Test.YtngcojabofkbjaaDoorGCat
import Derived.Test.YtngcojabofkbjaaDoorGLex
namespace Go.Proofs.YtngcojabofkbjaaDoor.P
open Go.RowKit Go.Proofs.YtngcojabofkbjaaDoorW.PrintWords Go.Proofs.YtngcojabofkbjaaDoorW.PrintLast Go.Proofs.YtngcojabofkbjaaDoorW.PrintMore
attribute [local go_sem] max2_int min2_int max_two min_two max_three min_three max_four min_four   -- for this text's walks alone
set_option linter.unusedVariables false
set_option linter.unusedSimpArgs false

theorem tj_loop (s : ByteArray) (hs : s.size ≤ 1000) (a b : List TokS) (ha : a.length ≤ 1000) (hb : b.length ≤ 1000)
    (hp : ∀ t ∈ b, 0 ≤ t.f3 ∧ t.f3 ≤ 1000000) : ∀ d k i : Nat, i ≤ a.length + b.length → a.length + b.length - i ≤ d → 2 * d + 1 < k → trufflelaw06_TokenJoin.l0 k s a b (a ++ b.map (shT (s.size + 1))) i = some true := by
  intro d
  induction d with
  | zero =>
    intro k i hi hd hk
    obtain ⟨k, rfl⟩ : ∃ m, k = m + 1 := ⟨k - 1, by omega⟩
    simp only [trufflelaw06_TokenJoin.l0]
    rw [if_neg (by simp only [List.length_append, List.length_map]; omega)]
  | succ d ih =>
    intro k i hi hd hk
    obtain ⟨k, rfl⟩ : ∃ m, k = m + 1 + 1 := ⟨k - 2, by omega⟩
    simp only [trufflelaw06_TokenJoin.l0]
    have hl : (a ++ b.map (shT (s.size + 1))).length = a.length + b.length := by simp
    rw [hl]
    by_cases hlt : i < a.length + b.length
    · rw [if_pos (by omega)]
      have hw : wrap64 ((i : Int) + 1) = ((i + 1 : Nat) : Int) := by rw [wrap_small _ (by omega) (by omega)]; omega
      have hn := ih k (i + 1) (by omega) (by omega) (by omega)
      by_cases hia : i < a.length
      · have e1 : (a ++ b.map (shT (s.size + 1)))[i]? = some a[i] := by rw [List.getElem?_append_left hia]; simp [hia]
        have e2 : a[i]? = some a[i] := by simp [hia]
        rw [if_pos (by omega), if_pos (by omega), rd_at _ i _ e1, rd_at _ i _ e2]
        simp only [beq_self_eq_true, Bool.not_true, Bool.or_false, trufflelaw06_TokenJoin.j3]
        rw [if_neg (by decide), if_neg (by omega), hw, hn]
      · obtain ⟨j, rfl⟩ : ∃ j, i = a.length + j := ⟨i - a.length, by omega⟩
        have hj : j < b.length := by omega
        have e1 : (a ++ b.map (shT (s.size + 1)))[a.length + j]? = some (shT (s.size + 1) b[j]) := by
          rw [List.getElem?_append_right (by omega), show a.length + j - a.length = j from by omega, List.getElem?_map]; simp [hj]
        have e2 : b[j]? = some b[j] := by simp [hj]
        have hwj : wrap64 (((a.length + j : Nat) : Int) - (a.length : Int)) = (j : Int) := by rw [wrap_small _ (by omega) (by omega)]; omega
        obtain ⟨q1, q2⟩ := hp b[j] (List.getElem_mem hj)
        rw [if_neg (by omega)]
        simp only [trufflelaw06_TokenJoin.j3]
        rw [if_neg (by decide), if_pos (by omega), if_pos (by omega), hl, if_pos (by omega), hwj, if_pos (by omega), if_pos (by omega), rd_at _ _ _ e1, rd_at _ j _ e2]
        rw [if_pos (by rfl), if_pos (by rfl), if_pos, hw, hn]
        show (b[j].f3 + ((s.size + 1 : Nat) : Int)) = _
        rw [wrap_small (b[j].f3 + (s.size : Int)) (by omega) (by omega), wrap_small _ (by omega) (by omega)]
        omega
    · rw [if_neg (by omega)]
theorem TokenJoin : trufflelaw06_TokenJoin.Pure := by
  intro a0 a1 h0 h1
  unfold trufflelaw06_TokenJoin.f
  rw [awake_true]
  simp only [Option.bind_some, if_true]
  by_cases g0 : (a0.size : Int) > 500
  · exact ⟨1, by rw [if_pos g0]; simp [trufflelaw06_TokenJoin.j0]⟩
  · by_cases g1 : (a1.size : Int) > 500
    · exact ⟨1, by rw [if_neg g0, decide_eq_true g1]; simp [trufflelaw06_TokenJoin.j0]⟩
    · obtain ⟨K, hK⟩ : ∃ K : Nat, 10000 < K := ⟨_, Nat.lt_succ_self _⟩
      refine ⟨K + 2, ?_⟩
      rw [if_neg g0, decide_eq_false g1]
      simp only [trufflelaw06_TokenJoin.j0]
      have hj := join_size a0 a1
      rw [if_neg (by decide), all_small a0 (by omega), all_small a1 (by omega), all_small _ (show ((a0 ++ (⟨#[10]⟩ : ByteArray)) ++ a1).size ≤ 5000 from by omega), join_bl, lf_size]
      simp only [Option.bind_some]
      rw [if_pos (by omega), if_pos (by omega)]
      have hl0 := bl_length a0
      have hl1 := bl_length a1
      cases hA : scan 1000 0 (bl a0) with
      | inr e =>
        obtain ⟨p, e⟩ := e
        have := scan_err _ _ _ _ _ _ (Nat.le_refl _) hA
        rw [show endL a0 [] (.inr (p, e)) = ([], (p : Int), e) from rfl, if_neg (by show ¬ e = 0; omega)]
      | inl ts =>
        obtain ⟨n1, n2⟩ := scan_len _ _ _ _ _ (Nat.le_refl _) hA
        rw [scan_lf (bl a1) _ _ _ _ _ (Nat.le_refl _) hA, scan_limit (1000 - ts.length) 1000 _ _ (by omega) (by omega), show 0 + (bl a0).length + 1 = 0 + (a0.size + 1) from by omega, scan_shift]
        cases hB : scan 1000 0 (bl a1) with
        | inr e =>
          obtain ⟨p, e⟩ := e
          have he := scan_err _ _ _ _ _ _ (Nat.le_refl _) hB
          rw [show endL a0 [] (.inl ts) = (ts, (a0.size : Int), 0) from rfl, show endL a1 [] (.inr (p, e)) = ([], (p : Int), e) from rfl, show preE ts (shE (a0.size + 1) (.inr (p, e))) = .inr (p + (a0.size + 1), e) from rfl, show endL (a0 ++ (⟨#[10]⟩ : ByteArray) ++ a1) [] (.inr (p + (a0.size + 1), e)) = ([], ((p + (a0.size + 1) : Nat) : Int), e) from rfl]
          rw [if_pos rfl, if_pos rfl, if_pos (by show ((p + (a0.size + 1) : Nat) : Int) = wrap64 (wrap64 ((p : Int) + (a0.size : Int)) + 1); rw [wrap_small ((p : Int) + (a0.size : Int)) (by omega) (by omega), wrap_small _ (by omega) (by omega)]; omega), if_neg (by show ¬ e = 0; omega)]
          simp only [trufflelaw06_TokenJoin.j1]
          rw [if_neg (by decide)]
          obtain ⟨K, rfl⟩ : ∃ m, K = m + 1 := ⟨K - 1, by omega⟩
          simp [trufflelaw06_TokenJoin.l0]
        | inl us =>
          obtain ⟨m1, m2⟩ := scan_len _ _ _ _ _ (Nat.le_refl _) hB
          have hat := scan_at _ _ _ _ _ (Nat.le_refl _) hB
          rw [show endL a0 [] (.inl ts) = (ts, (a0.size : Int), 0) from rfl, show endL a1 [] (.inl us) = (us, (a1.size : Int), 0) from rfl, show preE ts (shE (a0.size + 1) (.inl us)) = .inl (ts ++ us.map (shT (a0.size + 1))) from rfl, show endL (a0 ++ (⟨#[10]⟩ : ByteArray) ++ a1) [] (.inl (ts ++ us.map (shT (a0.size + 1)))) = (ts ++ us.map (shT (a0.size + 1)), ((a0 ++ (⟨#[10]⟩ : ByteArray) ++ a1).size : Int), 0) from rfl, hj]
          rw [if_pos rfl, if_pos rfl, if_pos (by show ((a0.size + 1 + a1.size : Nat) : Int) = wrap64 (wrap64 ((a1.size : Int) + (a0.size : Int)) + 1); rw [wrap_small ((a1.size : Int) + (a0.size : Int)) (by omega) (by omega), wrap_small _ (by omega) (by omega)]; omega), if_pos rfl]
          have hlen : ((((ts ++ us.map (shT (a0.size + 1))).length : Nat) : Int) != wrap64 ((ts.length : Int) + (us.length : Int))) = false := by
            rw [wrap_small _ (by omega) (by omega)]
            simp
          rw [hlen]
          simp only [trufflelaw06_TokenJoin.j1]
          rw [if_neg (by decide)]
          exact tj_loop a0 (by omega) ts us (by omega) (by omega) (fun t ht => by have := hat t ht; omega) (ts.length + us.length) K 0 (by omega) (by omega) (by omega)

end Go.Proofs.YtngcojabofkbjaaDoor.P
