/- What token.All tells, over lists of bytes: the plain specification, and that the printed parts of the reader come to it. -/
import Derived.Test.YtngcojabofkbjaaDoorPx0
import Derived.Test.YtngcojabofkbjaaDoorPx3
import Derived.Test.YtngcojabofkbjaaDoorPx4
import Derived.Test.YtngcojabofkbjaaDoorPx5
import Derived.Test.YtngcojabofkbjaaDoorPx6
import Derived.Test.YtngcojabofkbjaaDoorGAll
import Derived.Test.YtngcojabofkbjaaDoorGGInv
import Derived.Test.YtngcojabofkbjaaDoorGNum
import Derived.Test.YtngcojabofkbjaaDoorGOne
import Derived.Test.YtngcojabofkbjaaDoorGStrs
import Derived.Test.YtngcojabofkbjaaDoorGWhile
namespace Go.Proofs.YtngcojabofkbjaaDoor.P
open Go.RowKit Go.Proofs.YtngcojabofkbjaaDoorW.PrintWords Go.Proofs.YtngcojabofkbjaaDoorW.PrintLast Go.Proofs.YtngcojabofkbjaaDoorW.PrintMore
attribute [local go_sem] max2_int min2_int max_two min_two max_three min_three max_four min_four   -- for this text's walks alone
set_option linter.unusedVariables false
set_option linter.unusedSimpArgs false

abbrev bl (s : ByteArray) : List UInt8 := s.data.toList
theorem bl_length (s : ByteArray) : (bl s).length = s.size := by simp [bl]
theorem bt_nat (s : ByteArray) (i : Nat) (h : i < s.size) : bt s i = (s[i].toNat : Int) := by simp [bt, h]
theorem drop_bl (s : ByteArray) (i : Nat) (h : i < s.size) : (bl s).drop i = s[i] :: (bl s).drop (i + 1) := by
  have h2 : i < (bl s).length := by rw [bl_length]; exact h
  rw [List.drop_eq_getElem_cons h2]
  rfl
theorem extract_bl (s : ByteArray) (i j : Nat) : bl (s.extract i j) = ((bl s).drop i).take (j - i) := by
  simp [bl, ByteArray.data_extract, List.extract_eq_take_drop]
theorem mk_bl (s : ByteArray) : (⟨(bl s).toArray⟩ : ByteArray) = s := by simp [bl]
theorem toList_bl (s : ByteArray) : s.toList = bl s := ByteArray.toList_eq s
theorem eq_of_bl {a b : ByteArray} (h : bl a = bl b) : a = b := by rw [← mk_bl a, ← mk_bl b, h]
theorem wrap_small (n : Int) (h0 : -1000000000000000000 ≤ n) (h1 : n ≤ 1000000000000000000) : wrap64 n = n := by unfold wrap64; omega
theorem index_mem (l : List UInt8) (c : UInt8) : Lib.indexByte l c = if c ∈ l then ((l.takeWhile (· != c)).length : Int) else -1 := by
  induction l with
  | nil => simp [Lib.indexByte]
  | cons b l ih =>
    unfold Lib.indexByte
    by_cases hb : b = c
    · subst hb; simp
    · have hb2 : c ≠ b := fun e => hb e.symm
      simp only [beq_iff_eq, hb, if_false, ih, List.mem_cons, hb2, false_or]
      by_cases hm : c ∈ l
      · simp only [hm, if_true, List.takeWhile_cons, bne_iff_ne, ne_eq, hb, not_false_eq_true, if_true]
        rw [if_neg (by omega)]
        simp
      · simp [hm]
theorem index_ge (l : List UInt8) (c : UInt8) : 0 ≤ Lib.indexByte l c ↔ c ∈ l := by
  rw [index_mem]; split <;> simp_all
theorem index_at (l : List UInt8) (s : ByteArray) (i : Nat) (h : i < s.size) : strings_IndexByte.f ⟨l.toArray⟩ (bt s i) = some (Lib.indexByte l s[i]) := by
  unfold strings_IndexByte.f
  rw [bt_nat s i h]
  simp
/-- Blanks. -/
def blankB (c : UInt8) : Bool := c == 32 || c == 9 || c == 10 || c == 13
/-- How many bytes of blanks a text begins with (true: within a comment). -/
def skipN : Bool → List UInt8 → Nat
  | _, [] => 0
  | true, b :: r => 1 + skipN (b != 10) r
  | false, b :: r => if blankB b then 1 + skipN false r else if b = 47 ∧ r.head? = some 47 then 1 + skipN true r else 0
theorem skipN_le (c : Bool) (l : List UInt8) : skipN c l ≤ l.length := by
  induction l generalizing c with
  | nil => simp [skipN]
  | cons b r ih =>
    cases c
    · unfold skipN
      split
      · have := ih false; simp; omega
      · split
        · have := ih true; simp; omega
        · simp
    · unfold skipN; have := ih (b != 10); simp only [List.length_cons]; omega
theorem skipN_line (l : List UInt8) : skipN true l = (l.takeWhile (· != 10)).length + skipN false (l.drop (l.takeWhile (· != 10)).length) := by
  induction l with
  | nil => simp [skipN]
  | cons b r ih =>
    by_cases hb : b = 10
    · subst hb; simp [skipN, blankB]
    · have : (b != 10) = true := by simp [hb]
      rw [skipN, this, ih]
      simp [List.takeWhile_cons, this]
      omega
theorem takeWhile_all {α : Type} (p : α → Bool) (l : List α) (h : ∀ x ∈ l, p x = true) : l.takeWhile p = l := by
  induction l with
  | nil => rfl
  | cons a r ih => rw [List.takeWhile_cons, if_pos (h a (by simp)), ih (fun x hx => h x (by simp [hx]))]
theorem cut_line (a : ByteArray) : (cutAt a 10).1.size = ((bl a).takeWhile (· != 10)).length := by
  unfold cutAt
  rw [show Lib.indexByte a.data.toList 10 = Lib.indexByte (bl a) 10 from rfl, index_mem]
  by_cases hm : (10 : UInt8) ∈ bl a
  · rw [if_pos hm, if_neg (by omega)]
    have : ((bl a).takeWhile (· != 10)).length ≤ (bl a).length := (List.takeWhile_sublist _).length_le
    rw [bl_length] at this
    simp only [Int.toNat_natCast, ByteArray.size_extract]
    omega
  · rw [if_neg hm, if_pos (by omega)]
    have : (bl a).takeWhile (· != 10) = bl a := by
      apply takeWhile_all
      intro x hx
      simp only [bne_iff_ne, ne_eq]
      rintro rfl
      exact hm hx
    rw [this, bl_length]

theorem rest_eq (s : ByteArray) (i : Nat) (h : i ≤ s.size) : token_reader_rest.f s i = some (s.extract i s.size, s, (i : Int)) := by
  unfold token_reader_rest.f
  rw [if_pos (by omega), if_pos (by omega)]
  simp
theorem rest_bl (s : ByteArray) (i : Nat) (h : i ≤ s.size) : bl (s.extract i s.size) = (bl s).drop i := by
  rw [extract_bl, List.take_of_length_le]
  simp [bl_length]
theorem prefix_eq (a : ByteArray) : strings_HasPrefix.f a ⟨#[47, 47]⟩ = some (decide ((bl a).take 2 = [47, 47])) := by
  have e2 : (⟨#[47, 47]⟩ : ByteArray).size = 2 := rfl
  unfold strings_HasPrefix.f stringslite_HasPrefix.f
  rw [e2]
  by_cases h : (a.size : Int) ≥ ((2 : Nat) : Int)
  · rw [if_pos h, if_pos (by omega), if_pos (by omega)]
    simp only [Option.bind_some, toList_bl, extract_bl]
    congr 1
    simp [bl]
    rw [Bool.eq_iff_iff]; simp
  · rw [if_neg h]
    simp only [Option.bind_some]
    congr 1
    symm
    rw [decide_eq_false_iff_not]
    intro e
    have := congrArg List.length e
    rw [List.length_take, bl_length] at this
    simp at this
    omega
theorem skip_l0 (s : ByteArray) (hs : s.size ≤ 1000000000000) : ∀ (d k i : Nat), i ≤ s.size → s.size - i ≤ d → d < k → token_reader_skip.l0 k s i = some (s, ((i + skipN false ((bl s).drop i) : Nat) : Int)) := by
  intro d
  induction d with
  | zero =>
    intro k i hi hd hk
    obtain ⟨k, rfl⟩ : ∃ m, k = m + 1 := ⟨k - 1, by omega⟩
    obtain rfl : i = s.size := by omega
    simp only [token_reader_skip.l0]
    rw [if_neg (by omega), List.drop_of_length_le (by rw [bl_length]; omega)]
    simp [skipN]
  | succ d ih =>
    intro k i hi hd hk
    obtain ⟨k, rfl⟩ : ∃ m, k = m + 1 := ⟨k - 1, by omega⟩
    by_cases hlt : i < s.size
    · simp only [token_reader_skip.l0]
      rw [if_pos (by omega), if_pos (by omega), index_at _ s i hlt]
      simp only [Option.bind_some, ge_iff_le, index_ge]
      rw [drop_bl s i hlt]
      by_cases hb : blankB s[i] = true
      · have hm : s[i] ∈ ([32, 9, 10, 13] : List UInt8) := by unfold blankB at hb; simpa [or_assoc] using hb
        rw [if_pos hm, wrap_small _ (by omega) (by omega), show ((i : Int) + 1) = ((i + 1 : Nat) : Int) from by omega, ih k (i + 1) (by omega) (by omega) (by omega)]
        simp only [skipN, hb, if_true]
        congr 2
        omega
      · have hm : ¬ s[i] ∈ ([32, 9, 10, 13] : List UInt8) := by unfold blankB at hb; simpa [or_assoc] using hb
        rw [if_neg hm, rest_eq s i hi]
        simp only [Option.bind_some, prefix_eq, rest_bl s i hi, rest_eq s i hi]
        rw [drop_bl s i hlt]
        by_cases hc : s[i] = 47 ∧ ((bl s).drop (i + 1)).head? = some 47
        · obtain ⟨h1, h2⟩ := hc
          obtain ⟨r, hr⟩ : ∃ r, (bl s).drop (i + 1) = 47 :: r := by
            cases hl : (bl s).drop (i + 1) with
            | nil => rw [hl] at h2; cases h2
            | cons a r => rw [hl] at h2; simp at h2; exact ⟨r, by rw [h2]⟩
          have hcut : strings_Cut.f (s.extract i s.size) (⟨#[10]⟩ : ByteArray) = some (cutAt (s.extract i s.size) 10) := by
            unfold strings_Cut.f
            rw [if_pos (by simp only [ByteArray.size_extract]; omega)]
          have hln : (cutAt (s.extract i s.size) 10).1.size = 1 + ((47 :: r : List UInt8).takeWhile (· != 10)).length := by
            rw [cut_line, rest_bl s i hi, drop_bl s i hlt, h1, hr]
            simp [List.takeWhile_cons]
            omega
          have hle : ((47 :: r : List UInt8).takeWhile (· != 10)).length ≤ s.size - i - 1 := by
            have a1 := (List.takeWhile_sublist (l := (47 :: r : List UInt8)) (· != 10)).length_le
            have a2 := congrArg List.length hr
            rw [List.length_drop, bl_length] at a2
            omega
          rw [h1, hr]
          simp only [List.take_succ_cons, List.take_zero, decide_true, if_true, hcut, Option.bind_some, hln]
          rw [wrap_small _ (by omega) (by omega), show ((i : Int) + ((1 + ((47 :: r : List UInt8).takeWhile (· != 10)).length : Nat) : Int)) = ((i + (1 + ((47 :: r : List UInt8).takeWhile (· != 10)).length) : Nat) : Int) from by omega, ih k _ (by omega) (by omega) (by omega)]
          have e : skipN false (47 :: 47 :: r) = 1 + skipN true (47 :: r) := by simp [skipN, blankB]
          rw [e, skipN_line]
          have e2 : (bl s).drop (i + (1 + ((47 :: r : List UInt8).takeWhile (· != 10)).length)) = (47 :: r : List UInt8).drop ((47 :: r : List UInt8).takeWhile (· != 10)).length := by
            rw [← hr, List.drop_drop]
            congr 1
            omega
          rw [e2]
          congr 2
          omega
        · have hn : ¬ (List.take 2 (s[i] :: (bl s).drop (i + 1)) = [47, 47]) := by
            intro e
            apply hc
            cases hl : (bl s).drop (i + 1) with
            | nil => rw [hl] at e; simp at e
            | cons a r => rw [hl] at e; simp at e; exact ⟨e.1, by simp [e.2]⟩
          simp only [hn, decide_false]
          rw [if_neg (by simp)]
          unfold skipN
          rw [if_neg hb, if_neg hc]
          simp
    · obtain rfl : i = s.size := by omega
      simp only [token_reader_skip.l0]
      rw [if_neg (by omega), List.drop_of_length_le (by rw [bl_length]; omega)]
      simp [skipN]
theorem skip_eq (s : ByteArray) (hs : s.size ≤ 1000000000000) (k i : Nat) (hi : i ≤ s.size) (hk : s.size - i < k) : token_reader_skip.f k s i = some (s, ((i + skipN false ((bl s).drop i) : Nat) : Int)) :=
  skip_l0 s hs (s.size - i) k i hi (Nat.le_refl _) hk
theorem bt_get (a : ByteArray) (j : Nat) (c : UInt8) (h : (bl a)[j]? = some c) : bt a j = (c.toNat : Int) := by
  obtain ⟨hj, e⟩ := List.getElem?_eq_some_iff.mp h
  rw [bl_length] at hj
  rw [bt_nat a j hj, ← e]
  rfl
theorem stopAt_eq (p : Int → Bool) (s : ByteArray) : ∀ n i, i ≤ s.size → s.size - i ≤ n → stopAt p s n i = i + (((bl s).drop i).takeWhile (fun c => p (c.toNat : Int))).length := by
  intro n
  induction n with
  | zero =>
    intro i hi hn
    obtain rfl : i = s.size := by omega
    rw [stopAt, List.drop_of_length_le (by rw [bl_length]; omega)]
    simp
  | succ n ih =>
    intro i hi hn
    unfold stopAt
    by_cases hlt : i < s.size
    · rw [if_pos hlt, drop_bl s i hlt, bt_nat s i hlt, List.takeWhile_cons]
      by_cases hp : p (s[i].toNat : Int) = true
      · rw [if_pos hp, if_pos hp, ih (i + 1) (by omega) (by omega)]
        simp; omega
      · rw [if_neg hp, if_neg hp]; simp
    · rw [if_neg hlt, List.drop_of_length_le (by rw [bl_length]; omega)]
      simp
def nameU (c : UInt8) : Bool := nameB (c.toNat : Int)
def numU (c : UInt8) : Bool := numB (c.toNat : Int)
/-- How long a run is that begins with a byte whatever it is. -/
def runN (p : UInt8 → Bool) : List UInt8 → Nat
  | [] => 0
  | _ :: r => 1 + (r.takeWhile p).length
theorem runN_le (p : UInt8 → Bool) (l : List UInt8) : runN p l ≤ l.length := by
  cases l with
  | nil => simp [runN]
  | cons a r => have := (List.takeWhile_sublist (l := r) p).length_le; simp only [runN, List.length_cons]; omega
theorem while_text (p : Int → Bool) (s : ByteArray) (i : Nat) (hi : i < s.size) :
    stopAt p s s.size (i + 1) = i + runN (fun c => p (c.toNat : Int)) ((bl s).drop i) ∧ s.extract i (stopAt p s s.size (i + 1)) = ⟨(((bl s).drop i).take (runN (fun c => p (c.toNat : Int)) ((bl s).drop i))).toArray⟩ := by
  have e : stopAt p s s.size (i + 1) = i + runN (fun c => p (c.toNat : Int)) ((bl s).drop i) := by
    rw [stopAt_eq p s s.size (i + 1) (by omega) (by omega), drop_bl s i hi]
    simp only [runN]; omega
  refine ⟨e, ?_⟩
  apply eq_of_bl
  rw [e, extract_bl]
  simp [bl]
theorem name_eq (s : ByteArray) (hs : s.size ≤ 1000000000000) (i : Nat) (hi : i < s.size) :
    token_reader_name.f s i = some (0, ⟨(((bl s).drop i).take (runN nameU ((bl s).drop i))).toArray⟩, 0, 0, true, s, ((i + runN nameU ((bl s).drop i) : Nat) : Int)) := by
  obtain ⟨h1, h2⟩ := while_text nameB s i hi
  unfold token_reader_name.f token_reader_while.f
  rw [if_pos ⟨by omega, by omega, by omega⟩, if_pos rfl, Int.toNat_natCast]
  simp only [Option.bind_some, h2]
  rw [h1]
  rfl
theorem num_eq (s : ByteArray) (hs : s.size ≤ 1000000000000) (i : Nat) (hi : i < s.size) :
    token_reader_num.f s i = some (1, ⟨(((bl s).drop i).take (runN numU ((bl s).drop i))).toArray⟩, numV (((bl s).drop i).take (runN numU ((bl s).drop i))), 0, numOk (((bl s).drop i).take (runN numU ((bl s).drop i))), s, ((i + runN numU ((bl s).drop i) : Nat) : Int)) := by
  obtain ⟨h1, h2⟩ := while_text numB s i hi
  unfold token_reader_num.f token_reader_while.f
  rw [if_pos ⟨by omega, by omega, by omega⟩, if_neg (by decide), if_pos rfl, Int.toNat_natCast]
  simp only [Option.bind_some, h2]
  rw [h1]
  rfl
theorem one_eq (s : ByteArray) (hs : s.size ≤ 1000000000000) (i : Nat) (hi : i < s.size) :
    token_reader_one.f s i = some (3, ⟨#[s[i]]⟩, 0, 0, true, s, ((i + 1 : Nat) : Int)) := by
  unfold token_reader_one.f
  rw [if_pos ⟨by omega, by omega, by omega⟩, Int.toNat_natCast]
  have e : s.extract i (i + 1) = ⟨#[s[i]]⟩ := by
    apply eq_of_bl
    rw [extract_bl, drop_bl s i hi, show i + 1 - i = 1 from by omega]
    simp [bl]
  rw [e]
  simp
def hexesL : List UInt8 := [48, 49, 50, 51, 52, 53, 54, 55, 56, 57, 97, 98, 99, 100, 101, 102]
/-- The number of a byte among the sixteen; -1: it is none. -/
def hexI (c : UInt8) : Int := Lib.indexByte hexesL c
theorem hexI_range (c : UInt8) : -1 ≤ hexI c ∧ hexI c ≤ 15 := by
  have := indexByte_range hexesL c
  unfold hexI
  have e : hexesL.length = 16 := rfl
  rw [e] at this
  omega
theorem hex_bits : ∀ a b : Fin 16, (Go.bits .or .i64 (wrap64 ((a.val : Int) * 16)) (Go.bits .and .i64 (b.val : Int) 15)) % 256 = (a.val : Int) * 16 + b.val := by decide +kernel
/-- What stands behind a backslash: what it means, and how long it is. -/
def markL : List UInt8 → Option (UInt8 × Nat)
  | [] => none
  | d :: r => if d = 34 then some (34, 1) else if d = 92 then some (92, 1) else if d = 110 then some (10, 1)
    else if d = 120 then match r with
      | a :: b :: _ => if 0 ≤ hexI a ∧ 0 ≤ hexI b then some (UInt8.ofNat ((hexI a).toNat * 16 + (hexI b).toNat), 3) else none
      | _ => none
    else none
theorem mark_eq (s : ByteArray) (hs : s.size ≤ 1000000000000) (k i : Nat) (hi : i ≤ s.size) (hk : 0 < k) :
    (∀ m n, markL ((bl s).drop i) = some (m, n) → token_reader_mark.f k s i = some ((m.toNat : Int), true, s, ((i + n : Nat) : Int))) ∧
    (markL ((bl s).drop i) = none → ∃ v p, token_reader_mark.f k s i = some (v, false, s, p)) := by
  obtain ⟨k, rfl⟩ : ∃ m, k = m + 1 := ⟨k - 1, by omega⟩
  unfold token_reader_mark.f
  rw [rest_eq s i hi]
  have hb := rest_bl s i hi
  have hz : (s.extract i s.size).size = ((bl s).drop i).length := by rw [← bl_length, hb]
  simp only [Option.bind_some, toList_bl, hb]
  generalize s.extract i s.size = x at *
  cases hl : (bl s).drop i with
  | nil => simp [markL]
  | cons d r =>
    rw [hl] at hb hz
    have hx : 0 < (x.size : Int) := by rw [hz]; simp
    have b0 : bt x 0 = (d.toNat : Int) := bt_get x 0 d (by rw [hb]; rfl)
    rw [if_neg (by simp), if_pos hx]
    have hI : strings_IndexByte.f (⟨#[34, 92, 110]⟩ : ByteArray) (bt x 0) = some (Lib.indexByte [34, 92, 110] d) := by
      unfold strings_IndexByte.f; rw [b0]; simp
    rw [hI]
    simp only [Option.bind_some]
    by_cases d34 : d = 34
    · subst d34
      have e : Lib.indexByte [34, 92, 110] 34 = 0 := by decide
      rw [e, wrap_small _ (by omega) (by omega)]
      have e2 : bt (⟨#[34, 92, 10]⟩ : ByteArray) 0 = 34 := by decide
      simp [markL, e2]
    · by_cases d92 : d = 92
      · subst d92
        have e : Lib.indexByte [34, 92, 110] 92 = 1 := by decide
        rw [e, wrap_small _ (by omega) (by omega)]
        have e2 : bt (⟨#[34, 92, 10]⟩ : ByteArray) 1 = 92 := by decide
        simp [markL, e2]
      · by_cases d110 : d = 110
        · subst d110
          have e : Lib.indexByte [34, 92, 110] 110 = 2 := by decide
          rw [e, wrap_small _ (by omega) (by omega)]
          have e2 : bt (⟨#[34, 92, 10]⟩ : ByteArray) 2 = 10 := by decide
          simp [markL, e2]
        · have e : ¬ (Lib.indexByte [34, 92, 110] d ≥ 0) := by rw [ge_iff_le, index_ge]; simp [d34, d92, d110]
          rw [if_neg e]
          by_cases d120 : d = 120
          · subst d120
            have b0' : (bt x 0 != 120) = false := by rw [b0]; decide
            rw [b0']
            match r, hl, hb, hz with
            | [], hl, hb, hz =>
              rw [if_pos (by rw [hz]; simp)]
              simp [markL, token_reader_mark.j0]
            | [a], hl, hb, hz =>
              rw [if_pos (by rw [hz]; simp)]
              simp [markL, token_reader_mark.j0]
            | a :: b :: r', hl, hb, hz =>
              rw [if_neg (by rw [hz]; simp; omega)]
              have b1 : bt x 1 = (a.toNat : Int) := bt_get x 1 a (by rw [hb]; rfl)
              have b2 : bt x 2 = (b.toNat : Int) := bt_get x 2 b (by rw [hb]; rfl)
              have h1 : strings_IndexByte.f (⟨#[48, 49, 50, 51, 52, 53, 54, 55, 56, 57, 97, 98, 99, 100, 101, 102]⟩ : ByteArray) (bt x 1) = some (hexI a) := by
                unfold strings_IndexByte.f; rw [b1]; simp [hexI, hexesL]
              have h2 : strings_IndexByte.f (⟨#[48, 49, 50, 51, 52, 53, 54, 55, 56, 57, 97, 98, 99, 100, 101, 102]⟩ : ByteArray) (bt x 2) = some (hexI b) := by
                unfold strings_IndexByte.f; rw [b2]; simp [hexI, hexesL]
              simp only [token_reader_mark.j0, h1, h2, Option.bind_some]
              rw [if_neg (by simp), if_pos (by rw [hz]; simp; omega), if_pos (by rw [hz]; simp; omega), wrap_small ((i : Int) + 3) (by omega) (by omega)]
              have ra := hexI_range a
              have rb := hexI_range b
              by_cases ha : 0 ≤ hexI a
              · rw [if_pos ha]
                by_cases hb2 : 0 ≤ hexI b
                · have em : markL (120 :: a :: b :: r') = some (UInt8.ofNat ((hexI a).toNat * 16 + (hexI b).toNat), 3) := by simp [markL, ha, hb2]
                  rw [em]
                  have hv := hex_bits ⟨(hexI a).toNat, by omega⟩ ⟨(hexI b).toNat, by omega⟩
                  simp only [Int.toNat_of_nonneg ha, Int.toNat_of_nonneg hb2] at hv
                  rw [hv]
                  refine ⟨fun m n hmn => ?_, fun h => by cases h⟩
                  simp only [Option.some.injEq, Prod.mk.injEq] at hmn
                  obtain ⟨rfl, rfl⟩ := hmn
                  have e3 : ((UInt8.ofNat ((hexI a).toNat * 16 + (hexI b).toNat)).toNat : Int) = hexI a * 16 + hexI b := by
                    rw [UInt8.toNat_ofNat', Nat.mod_eq_of_lt (by omega)]; omega
                  rw [e3]
                  simp [hb2]
                · have em : markL (120 :: a :: b :: r') = none := by simp [markL, hb2]
                  rw [em]
                  refine ⟨fun m n h => (by cases h), fun _ => ⟨Go.bits .or .i64 (wrap64 (hexI a * 16)) (Go.bits .and .i64 (hexI b) 15) % 256, (i : Int) + 3, ?_⟩⟩
                  rw [show decide (hexI b ≥ 0) = false from decide_eq_false (by omega)]
              · rw [if_neg ha]
                have em : markL (120 :: a :: b :: r') = none := by simp [markL, ha]
                rw [em]
                exact ⟨fun m n h => (by cases h), fun _ => ⟨_, _, rfl⟩⟩
          · have em : markL (d :: r) = none := by simp [markL, d34, d92, d110, d120]
            rw [em]
            have b0' : (bt x 0 != 120) = true := by
              rw [b0, bne_iff_ne]
              intro e
              apply d120
              rw [← UInt8.toNat_inj]
              have : d.toNat = 120 := by omega
              rw [this]; rfl
            rw [b0']
            refine ⟨fun m n h => (by cases h), fun _ => ⟨0, i, ?_⟩⟩
            split
            · simp [token_reader_mark.j0]
            · simp [token_reader_mark.j0]

/-- A string behind its first quote: what it means, and how long the rest is, the last quote with it. -/
def strL : Nat → List UInt8 → Option (List UInt8 × Nat)
  | 0, _ => none
  | _ + 1, [] => none
  | f + 1, c :: r => if c = 34 then some ([], 1) else if c = 92 then (match markL r with
      | none => none
      | some (m, n) => (strL f (r.drop n)).map fun x => (m :: x.1, n + 1 + x.2))
    else if c < 32 then none else if c = 127 then none else (strL f r).map fun x => (c :: x.1, x.2 + 1)
theorem markL_le (l : List UInt8) (m : UInt8) (n : Nat) (h : markL l = some (m, n)) : 1 ≤ n ∧ n ≤ l.length := by
  cases l with
  | nil => cases h
  | cons d r =>
    simp only [markL] at h
    by_cases h1 : d = 34
    · rw [if_pos h1] at h; simp only [Option.some.injEq, Prod.mk.injEq] at h; obtain ⟨_, rfl⟩ := h; simp
    · rw [if_neg h1] at h
      by_cases h2 : d = 92
      · rw [if_pos h2] at h; simp only [Option.some.injEq, Prod.mk.injEq] at h; obtain ⟨_, rfl⟩ := h; simp
      · rw [if_neg h2] at h
        by_cases h3 : d = 110
        · rw [if_pos h3] at h; simp only [Option.some.injEq, Prod.mk.injEq] at h; obtain ⟨_, rfl⟩ := h; simp
        · rw [if_neg h3] at h
          by_cases h4 : d = 120
          · rw [if_pos h4] at h
            match r, h with
            | [], h => cases h
            | [a], h => cases h
            | a :: b :: r', h =>
              simp only at h
              split at h
              · simp only [Option.some.injEq, Prod.mk.injEq] at h; obtain ⟨_, rfl⟩ := h; simp
              · cases h
          · rw [if_neg h4] at h; cases h
theorem strL_le : ∀ (f : Nat) (l t : List UInt8) (n : Nat), strL f l = some (t, n) → 1 ≤ n ∧ n ≤ l.length ∧ t.length + 1 ≤ n := by
  intro f
  induction f with
  | zero => intro l t n h; simp [strL] at h
  | succ f ih =>
    intro l t n h
    cases l with
    | nil => simp [strL] at h
    | cons c r =>
      unfold strL at h
      split at h
      · simp only [Option.some.injEq, Prod.mk.injEq] at h; obtain ⟨rfl, rfl⟩ := h; simp
      · split at h
        · split at h
          · cases h
          · rename_i m j hm
            obtain ⟨h1, h2⟩ := markL_le r m j hm
            obtain ⟨⟨t', n'⟩, h3, h4⟩ := Option.map_eq_some_iff.mp h
            obtain ⟨g1, g2, g3⟩ := ih _ _ _ h3
            simp only [Prod.mk.injEq] at h4
            obtain ⟨rfl, rfl⟩ := h4
            rw [List.length_drop] at g2
            simp only [List.length_cons]
            omega
        · split at h
          · cases h
          · split at h
            · cases h
            · obtain ⟨⟨t', n'⟩, h3, h4⟩ := Option.map_eq_some_iff.mp h
              obtain ⟨g1, g2, g3⟩ := ih _ _ _ h3
              simp only [Prod.mk.injEq] at h4
              obtain ⟨rfl, rfl⟩ := h4
              simp only [List.length_cons]
              omega
def numsOf (l : List UInt8) : List Int := l.map fun c => (c.toNat : Int)
theorem strOf_nums (l : List UInt8) : strOfNums (numsOf l) = ⟨l.toArray⟩ := by
  unfold strOfNums numsOf
  congr 2
  rw [List.map_map]
  conv => rhs; rw [← List.map_id l]
  apply List.map_congr_left
  intro c _
  simp
theorem str_l0 (s : ByteArray) (hs : s.size ≤ 1000000000000) : ∀ (d k i : Nat) (acc : List UInt8) (f : Nat), i ≤ s.size → s.size - i ≤ d → d < k → d < f → acc.length ≤ i →
    (∀ t n, strL f ((bl s).drop i) = some (t, n) → token_reader_str.l0 k (numsOf acc) s i = some (2, ⟨(acc ++ t).toArray⟩, 0, 0, true, s, ((i + n : Nat) : Int))) ∧
    (strL f ((bl s).drop i) = none → ∃ p, token_reader_str.l0 k (numsOf acc) s i = some (0, ⟨#[]⟩, 0, 0, false, s, p)) := by
  intro d
  induction d with
  | zero =>
    intro k i acc f hi hd hk hf ha
    obtain ⟨k, rfl⟩ : ∃ m, k = m + 1 := ⟨k - 1, by omega⟩
    obtain ⟨f, rfl⟩ : ∃ m, f = m + 1 := ⟨f - 1, by omega⟩
    obtain rfl : i = s.size := by omega
    simp only [token_reader_str.l0]
    rw [if_neg (by omega), List.drop_of_length_le (by rw [bl_length]; omega)]
    simp [strL]
  | succ d ih =>
    intro k i acc f hi hd hk hf ha
    obtain ⟨k, rfl⟩ : ∃ m, k = m + 1 := ⟨k - 1, by omega⟩
    obtain ⟨f, rfl⟩ : ∃ m, f = m + 1 := ⟨f - 1, by omega⟩
    by_cases hlt : i < s.size
    · have hw : wrap64 ((i : Int) + 1) = ((i + 1 : Nat) : Int) := by rw [wrap_small _ (by omega) (by omega)]; omega
      have hal : (numsOf acc).length < 140737488355328 := by unfold numsOf; rw [List.length_map]; omega
      simp only [token_reader_str.l0]
      rw [if_pos (by omega), if_pos (by omega), drop_bl s i hlt, bt_nat s i hlt, hw]
      generalize hc : s[i] = c
      have e34 : ((c.toNat : Int) = 34) ↔ c = 34 := by rw [← UInt8.toNat_inj]; show _ ↔ c.toNat = 34; omega
      have e92 : ((c.toNat : Int) = 92) ↔ c = 92 := by rw [← UInt8.toNat_inj]; show _ ↔ c.toNat = 92; omega
      have e127 : ((c.toNat : Int) = 127) ↔ c = 127 := by rw [← UInt8.toNat_inj]; show _ ↔ c.toNat = 127; omega
      have e32 : ((c.toNat : Int) < 32) ↔ c < 32 := by rw [UInt8.lt_iff_toNat_lt]; show _ ↔ c.toNat < 32; omega
      simp only [e34, e92, e127, e32]
      unfold strL
      by_cases h34 : c = 34
      · rw [if_pos h34, if_pos h34]
        refine ⟨fun t n h => ?_, fun h => by cases h⟩
        simp only [Option.some.injEq, Prod.mk.injEq] at h
        obtain ⟨rfl, rfl⟩ := h
        rw [strOf_nums, List.append_nil]
      · rw [if_neg h34, if_neg h34]
        by_cases h92 : c = 92
        · rw [if_pos h92, if_pos h92]
          obtain ⟨m1, m2⟩ := mark_eq s hs k (i + 1) (by omega) (by omega)
          cases hm : markL ((bl s).drop (i + 1)) with
          | none =>
            obtain ⟨v, p, hv⟩ := m2 hm
            rw [hv]
            exact ⟨fun t n h => (by cases h), fun _ => ⟨p, by simp⟩⟩
          | some x =>
            obtain ⟨m, n⟩ := x
            rw [m1 m n hm]
            simp only [Option.bind_some, if_true]
            rw [if_pos hal]
            obtain ⟨h1, h2⟩ := markL_le _ m n hm
            rw [List.length_drop, bl_length] at h2
            have hacc : numsOf acc ++ [(m.toNat : Int)] = numsOf (acc ++ [m]) := by simp [numsOf]
            rw [hacc]
            obtain ⟨g1, g2⟩ := ih k (i + 1 + n) (acc ++ [m]) f (by omega) (by omega) (by omega) (by omega) (by simp; omega)
            rw [List.drop_drop]
            constructor
            · intro t n' h
              obtain ⟨⟨t', n2⟩, h3, h4⟩ := Option.map_eq_some_iff.mp h
              simp only [Prod.mk.injEq] at h4
              obtain ⟨rfl, rfl⟩ := h4
              rw [g1 t' n2 h3, show i + 1 + n + n2 = i + (n + 1 + n2) from by omega]
              simp only [List.append_assoc, List.singleton_append]
            · intro h
              exact g2 (Option.map_eq_none_iff.mp h)
        · rw [if_neg h92, if_neg h92]
          by_cases h32 : c < 32
          · rw [if_pos h32, if_pos h32]
            exact ⟨fun t n h => (by cases h), fun _ => ⟨_, rfl⟩⟩
          · rw [if_neg h32, if_neg h32]
            by_cases h127 : c = 127
            · rw [if_pos h127, if_pos h127]
              exact ⟨fun t n h => (by cases h), fun _ => ⟨_, rfl⟩⟩
            · rw [if_neg h127, if_neg h127, if_pos hal]
              have hacc : numsOf acc ++ [(c.toNat : Int)] = numsOf (acc ++ [c]) := by simp [numsOf]
              rw [hacc]
              obtain ⟨g1, g2⟩ := ih k (i + 1) (acc ++ [c]) f (by omega) (by omega) (by omega) (by omega) (by simp; omega)
              constructor
              · intro t n' h
                obtain ⟨⟨t', n2⟩, h3, h4⟩ := Option.map_eq_some_iff.mp h
                simp only [Prod.mk.injEq] at h4
                obtain ⟨rfl, rfl⟩ := h4
                rw [g1 t' n2 h3, show i + 1 + n2 = i + (n2 + 1) from by omega]
                simp only [List.append_assoc, List.singleton_append]
              · intro h
                exact g2 (Option.map_eq_none_iff.mp h)
    · obtain rfl : i = s.size := by omega
      simp only [token_reader_str.l0]
      rw [if_neg (by omega), List.drop_of_length_le (by rw [bl_length]; omega)]
      simp [strL]
/-- The token that a text begins with: its kind, what it means, its number, how long it is. -/
def lex1 : List UInt8 → Option (Int × List UInt8 × Int × Nat)
  | [] => none
  | b :: r => if ofK (b.toNat : Int) = 4 then none
    else if ofK (b.toNat : Int) = 0 then some (0, (b :: r).take (runN nameU (b :: r)), 0, runN nameU (b :: r))
    else if ofK (b.toNat : Int) = 1 then (if numOk ((b :: r).take (runN numU (b :: r))) = true then some (1, (b :: r).take (runN numU (b :: r)), numV ((b :: r).take (runN numU (b :: r))), runN numU (b :: r)) else none)
    else if ofK (b.toNat : Int) = 2 then (strL (r.length + 1) r).map fun x => (2, x.1, 0, x.2 + 1)
    else some (3, [b], 0, 1)
theorem lex1_cons (b : UInt8) (r : List UInt8) : lex1 (b :: r) = if ofK (b.toNat : Int) = 4 then none
    else if ofK (b.toNat : Int) = 0 then some (0, (b :: r).take (runN nameU (b :: r)), 0, runN nameU (b :: r))
    else if ofK (b.toNat : Int) = 1 then (if numOk ((b :: r).take (runN numU (b :: r))) = true then some (1, (b :: r).take (runN numU (b :: r)), numV ((b :: r).take (runN numU (b :: r))), runN numU (b :: r)) else none)
    else if ofK (b.toNat : Int) = 2 then (strL (r.length + 1) r).map fun x => (2, x.1, 0, x.2 + 1)
    else some (3, [b], 0, 1) := rfl
theorem lex1_le (l : List UInt8) (kd : Int) (t : List UInt8) (v : Int) (n : Nat) (h : lex1 l = some (kd, t, v, n)) : 1 ≤ n ∧ n ≤ l.length := by
  cases l with
  | nil => cases h
  | cons b r =>
    have hr1 : 1 ≤ runN nameU (b :: r) := by simp [runN]
    have hr2 : 1 ≤ runN numU (b :: r) := by simp [runN]
    have hr3 := runN_le nameU (b :: r)
    have hr4 := runN_le numU (b :: r)
    rw [lex1_cons] at h
    split at h
    · cases h
    · split at h
      · simp only [Option.some.injEq, Prod.mk.injEq] at h; obtain ⟨_, _, _, rfl⟩ := h; exact ⟨hr1, hr3⟩
      · split at h
        · split at h
          · simp only [Option.some.injEq, Prod.mk.injEq] at h; obtain ⟨_, _, _, rfl⟩ := h; exact ⟨hr2, hr4⟩
          · cases h
        · split at h
          · obtain ⟨⟨t', n'⟩, h3, h4⟩ := Option.map_eq_some_iff.mp h
            simp only [Prod.mk.injEq] at h4
            obtain ⟨_, _, _, rfl⟩ := h4
            have := strL_le _ _ _ _ h3
            simp only [List.length_cons]; omega
          · simp only [Option.some.injEq, Prod.mk.injEq] at h; obtain ⟨_, _, _, rfl⟩ := h; simp
theorem tokOne_eq (s : ByteArray) (hs : s.size ≤ 1000000000000) (k i : Nat) (hi : i < s.size) (hk : s.size - i < k) :
    (∀ kd t v n, lex1 ((bl s).drop i) = some (kd, t, v, n) → ¬ ofK (bt s i) = 4 ∧ tokOne k (ofK (bt s i)) s i = some (kd, ⟨t.toArray⟩, v, 0, true, s, ((i + n : Nat) : Int))) ∧
    (lex1 ((bl s).drop i) = none → ofK (bt s i) = 4 ∨ ∃ a b c d p, tokOne k (ofK (bt s i)) s i = some (a, b, c, d, false, s, p)) := by
  have hn := name_eq s hs i hi
  have hu := num_eq s hs i hi
  have ho := one_eq s hs i hi
  have hw : wrap64 ((i : Int) + 1) = ((i + 1 : Nat) : Int) := by rw [wrap_small _ (by omega) (by omega)]; omega
  have hst : token_reader_str.f k s i = token_reader_str.l0 k (numsOf []) s ((i + 1 : Nat) : Int) := by unfold token_reader_str.f; rw [hw]; rfl
  have hl := str_l0 s hs (s.size - (i + 1)) k (i + 1) [] (((bl s).drop (i + 1)).length + 1) (by omega) (by omega) (by omega) (by rw [List.length_drop, bl_length]; omega) (by simp)
  rw [bt_nat s i hi]
  rw [drop_bl s i hi] at *
  have hq := ofK_range (s[i].toNat : Int)
  rw [lex1_cons]
  unfold tokOne
  by_cases h4 : ofK (s[i].toNat : Int) = 4
  · rw [if_pos h4]; exact ⟨fun _ _ _ _ h => (by cases h), fun _ => .inl h4⟩
  · rw [if_neg h4]
    by_cases h0 : ofK (s[i].toNat : Int) = 0
    · rw [if_pos h0, if_pos h0]
      refine ⟨fun kd t v n h => ?_, fun h => (by cases h)⟩
      simp only [Option.some.injEq, Prod.mk.injEq] at h
      obtain ⟨rfl, rfl, rfl, rfl⟩ := h
      exact ⟨h4, hn⟩
    · rw [if_neg h0, if_neg h0]
      by_cases h1 : ofK (s[i].toNat : Int) = 1
      · rw [if_pos h1, if_pos h1]
        by_cases hok : numOk ((s[i] :: (bl s).drop (i + 1)).take (runN numU (s[i] :: (bl s).drop (i + 1)))) = true
        · rw [if_pos hok]
          refine ⟨fun kd t v n h => ?_, fun h => (by cases h)⟩
          simp only [Option.some.injEq, Prod.mk.injEq] at h
          obtain ⟨rfl, rfl, rfl, rfl⟩ := h
          rw [hu, hok]
          exact ⟨h4, rfl⟩
        · rw [if_neg hok]
          rw [Bool.eq_false_iff.mpr hok] at hu
          exact ⟨fun _ _ _ _ h => (by cases h), fun _ => .inr ⟨_, _, _, _, _, hu⟩⟩
      · rw [if_neg h1, if_neg h1]
        by_cases h2 : ofK (s[i].toNat : Int) = 2
        · rw [if_pos h2, if_pos h2, hst]
          constructor
          · intro kd t v n h
            obtain ⟨⟨t', n'⟩, h3, h5⟩ := Option.map_eq_some_iff.mp h
            simp only [Prod.mk.injEq] at h5
            obtain ⟨rfl, rfl, rfl, rfl⟩ := h5
            refine ⟨h4, ?_⟩
            rw [hl.1 t' n' h3, List.nil_append, show i + 1 + n' = i + (n' + 1) from by omega]
          · intro h
            obtain ⟨p, hp⟩ := hl.2 (Option.map_eq_none_iff.mp h)
            exact .inr ⟨_, _, _, _, p, hp⟩
        · rw [if_neg h2, if_neg h2]
          refine ⟨fun kd t v n h => ?_, fun h => (by cases h)⟩
          simp only [Option.some.injEq, Prod.mk.injEq] at h
          obtain ⟨rfl, rfl, rfl, rfl⟩ := h
          exact ⟨h4, ho⟩
abbrev TokS := S29
/-- The tokens from a place on, m more at most; or where there is none, and the error. -/
def lexL : Nat → Nat → Nat → List UInt8 → List TokS ⊕ (Nat × Int)
  | 0, _, p, _ => .inr (p, 0)
  | _ + 1, _, _, [] => .inl []
  | f + 1, m, p, b :: r => match lex1 (b :: r) with
    | none => .inr (p, 4)
    | some (kd, t, v, n) => if m = 0 then .inr (p, 2) else
      match lexL f (m - 1) (p + n + skipN false ((b :: r).drop n)) (((b :: r).drop n).drop (skipN false ((b :: r).drop n))) with
      | .inl ts => .inl (⟨kd, ⟨t.toArray⟩, v, p⟩ :: ts)
      | .inr e => .inr e
def endL (s : ByteArray) (acc : List TokS) : List TokS ⊕ (Nat × Int) → List TokS × Int × Int
  | .inl ts => (acc ++ ts, s.size, 0)
  | .inr (p, e) => ([], p, e)
theorem tokLoop_eq (s : ByteArray) (hs : s.size ≤ 1000000000000) : ∀ (d k i m f : Nat) (acc : List TokS), i ≤ s.size → s.size - i ≤ d → d + 1 < k → d < f → acc.length + m = 1000 →
    tokLoop k s s acc i = some (endL s acc (lexL f m i ((bl s).drop i))) := by
  intro d
  induction d with
  | zero =>
    intro k i m f acc hi hd hk hf hm
    obtain ⟨k, rfl⟩ : ∃ m, k = m + 1 := ⟨k - 1, by omega⟩
    obtain ⟨f, rfl⟩ : ∃ m, f = m + 1 := ⟨f - 1, by omega⟩
    obtain rfl : i = s.size := by omega
    simp only [tokLoop]
    rw [if_neg (by omega), List.drop_of_length_le (by rw [bl_length]; omega)]
    simp [lexL, endL]
  | succ d ih =>
    intro k i m f acc hi hd hk hf hm
    obtain ⟨k, rfl⟩ : ∃ m, k = m + 1 := ⟨k - 1, by omega⟩
    obtain ⟨f, rfl⟩ : ∃ m, f = m + 1 := ⟨f - 1, by omega⟩
    by_cases hlt : i < s.size
    · simp only [tokLoop]
      rw [if_pos (by omega), if_pos (by omega)]
      obtain ⟨h1, h2⟩ := tokOne_eq s hs k i hlt (by omega)
      cases hx : lex1 ((bl s).drop i) with
      | none =>
        have e : lexL (f + 1) m i ((bl s).drop i) = .inr (i, 4) := by rw [drop_bl s i hlt] at hx ⊢; simp only [lexL, hx]
        rw [e]
        by_cases h4 : ofK (bt s i) = 4
        · rw [if_pos h4]; rfl
        · rw [if_neg h4]
          rcases h2 hx with h | ⟨a, b, c, d', p, h⟩
          · exact absurd h h4
          · rw [h]; rfl
      | some x =>
        obtain ⟨kd, t, v, n⟩ := x
        obtain ⟨h4, h5⟩ := h1 kd t v n hx
        obtain ⟨n1, n2⟩ := lex1_le _ _ _ _ _ hx
        rw [List.length_drop, bl_length] at n2
        rw [if_neg h4, h5]
        simp only [Option.bind_some]
        rw [if_neg (by simp)]
        have hsk := skip_eq s hs k (i + n) (by omega) (by omega)
        have hle := skipN_le false ((bl s).drop (i + n))
        rw [List.length_drop, bl_length] at hle
        by_cases hmm : m = 0
        · have e : lexL (f + 1) m i ((bl s).drop i) = .inr (i, 2) := by rw [drop_bl s i hlt] at hx ⊢; simp only [lexL, hx]; rw [if_pos hmm]
          rw [if_pos (by omega), e]; rfl
        · have e : lexL (f + 1) m i ((bl s).drop i) = match lexL f (m - 1) (i + n + skipN false ((bl s).drop (i + n))) ((bl s).drop (i + n + skipN false ((bl s).drop (i + n)))) with
              | .inl ts => .inl (⟨kd, ⟨t.toArray⟩, v, i⟩ :: ts)
              | .inr e => .inr e := by
            rw [← List.drop_drop, ← List.drop_drop]
            rw [drop_bl s i hlt] at hx ⊢
            simp only [lexL, hx]
            rw [if_neg hmm, show (bl s).drop (i + n) = (s[i] :: (bl s).drop (i + 1)).drop n from by rw [← drop_bl s i hlt, List.drop_drop]]
          rw [if_neg (by omega), hsk]
          simp only [Option.bind_some]
          rw [ih k _ (m - 1) f _ (by omega) (by omega) (by omega) (by omega) (by simp; omega), e]
          cases lexL f (m - 1) (i + n + skipN false ((bl s).drop (i + n))) ((bl s).drop (i + n + skipN false ((bl s).drop (i + n)))) with
          | inl ts => simp [endL]
          | inr e => rfl
    · obtain rfl : i = s.size := by omega
      simp only [tokLoop]
      rw [if_neg (by omega), List.drop_of_length_le (by rw [bl_length]; omega)]
      simp [lexL, endL]
def allL (l : List UInt8) : List TokS ⊕ (Nat × Int) := lexL (l.length + 1) 1000 (skipN false l) (l.drop (skipN false l))
def allF (s : ByteArray) : List TokS × Int × Int := if s.size > 5000 then ([], 0, 2) else endL s [] (allL (bl s))
theorem tokAll_eq (s : ByteArray) : tokAll (s.size + 3) s = some (allF s) := by
  unfold tokAll allF
  by_cases h : s.size > 5000
  · rw [if_pos (by omega), if_pos h]
  · rw [if_neg (by omega), if_neg h]
    have hsk := skip_eq s (by omega) (s.size + 3) 0 (by omega) (by omega)
    have hle := skipN_le false (bl s)
    rw [bl_length] at hle
    simp only [Int.natCast_zero, Nat.zero_add, List.drop_zero] at hsk
    rw [hsk]
    simp only [Option.bind_some]
    unfold allL
    exact tokLoop_eq s (by omega) s.size (s.size + 3) (skipN false (bl s)) 1000 ((bl s).length + 1) [] hle (by omega) (by omega) (by rw [bl_length]; omega) (by simp)
def token_All.f (a0 : ByteArray) : Option (List TokS × Int × Int) := some (allF a0)
theorem token_All.calls (a0 : ByteArray) (r1 : List S29) (r2 : Int) (r3 : Int) (w : World) (hG : GInv w) (h : token_All.f a0 = some (r1, r2, r3)) :
    Calls Tryd.prog 16 #[.string a0] w fun e w' => ∃ v0_ : Value, e = .returned (.tuple #[v0_, .int .i64 r2, .int .i64 r3]) ∧ Kd.R k29 29 w' w.heap.size (fun _ => True) v0_ r1 ∧ Below w.heap.size w w' :=
  tokAll_walk (a0.size + 3) a0 r1 r2 r3 w hG (by rw [tokAll_eq]; exact h)

end Go.Proofs.YtngcojabofkbjaaDoor.P
