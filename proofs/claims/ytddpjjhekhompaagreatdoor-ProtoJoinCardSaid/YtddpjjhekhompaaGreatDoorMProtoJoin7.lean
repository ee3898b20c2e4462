/- Part 7 of what the law ProtoJoin leans on: contracts of the functions that it reaches, and plain lemmas; printed walks and words (by the kit's print, through wip/mp.py) and the session's own texts, one behind the other, what is not used left out (wip/prune.py). -/
import Derived.Lib.ItoaMem
import Derived.Lib.Join
import Derived.Lib.ItoaLen
import Derived.Deep.DeepWitnessRowRef
import Derived.Stop.LaidErr
import Derived.Lib.LaidTab
import Derived.LaidLaws
import Derived.MakeChecks
import Derived.Test.YtddpjjhekhompaaGreatDoorRows
import Derived.Test.YtddpjjhekhompaaGreatDoorMProtoJoin1
import Derived.Test.YtddpjjhekhompaaGreatDoorMProtoJoin2
import Derived.Test.YtddpjjhekhompaaGreatDoorMProtoJoin3
import Derived.Test.YtddpjjhekhompaaGreatDoorMProtoJoin4
import Derived.Test.YtddpjjhekhompaaGreatDoorMProtoJoin5
import Derived.Test.YtddpjjhekhompaaGreatDoorMProtoJoin6
namespace Go.Proofs.YtddpjjhekhompaaGreatDoor.P
open Go.RowKit Go.Proofs.YtddpjjhekhompaaGreatDoorW.PrintWords Go.Proofs.YtddpjjhekhompaaGreatDoorW.PrintLast Go.Proofs.YtddpjjhekhompaaGreatDoorW.PrintMore
set_option linter.unusedVariables false
set_option linter.unusedSimpArgs false
abbrev Br := Int × List UInt8 × Int
def sg (x : List UInt8) : Br := (3, x, 0)
def nmT (x : ByteArray) : Br := (0, bl x, 0)
def wdT (x : List UInt8) : Br := (0, x, 0)
def nuT (n : Int) : Br := (1, Lib.itoa n, n)
abbrev Fd := ByteArray × ByteArray × Int
inductive It where
  | pl (f : Fd)
  | rp (f : Fd)
  | mp (k : ByteArray) (f : Fd)
  | on (nm : ByteArray) (fs : List Fd)
  | rs (n : Int) (ns : List Int)
def valT (nm : ByteArray) (n : Int) : List Br := [nmT nm, sg [61], nuT n, sg [59]]
def fdT (f : Fd) : List Br := nmT f.1 :: valT f.2.1 f.2.2
def fdsT : List Fd → List Br
  | [] => []
  | f :: r => fdT f ++ fdsT r
def comT : List Int → List Br
  | [] => []
  | n :: r => sg [44] :: nuT n :: comT r
def itT : It → List Br
  | .pl f => fdT f
  | .rp f => wdT wRep :: fdT f
  | .mp k f => [wdT wMap, sg [60], nmT k, sg [44], nmT f.1, sg [62]] ++ valT f.2.1 f.2.2
  | .on nm fs => wdT wOneof :: nmT nm :: sg [123] :: (fdsT fs ++ [sg [125]])
  | .rs n ns => wdT wRes :: nuT n :: (comT ns ++ [sg [59]])
def itsT : List It → List Br
  | [] => []
  | x :: r => itT x ++ itsT r
def valsT : List (ByteArray × Int) → List Br
  | [] => []
  | v :: r => valT v.1 v.2 ++ valsT r
inductive Tp where
  | ms (nm : ByteArray) (its : List It)
  | en (nm : ByteArray) (vs : List (ByteArray × Int))
def tpT : Tp → List Br
  | .ms nm its => wdT wMsg :: nmT nm :: sg [123] :: (itsT its ++ [sg [125]])
  | .en nm vs => wdT wEnum :: nmT nm :: sg [123] :: (valsT vs ++ [sg [125]])
def tpsT : List Tp → List Br
  | [] => []
  | x :: r => tpT x ++ tpsT r
def stF (f : FieldS) : FieldS := ⟨f.f0, f.f1, f.f2, f.f3, f.f4, f.f5, 0⟩
def stA (m : MAcc) : MAcc := (m.1.map stF, m.2.1, m.2.2)
def stM (m : MsgS) : MsgS := ⟨m.f0, m.f1.map stF, m.f2, m.f3, 0⟩
def stV (v : ValS) : ValS := ⟨v.f0, v.f1, 0⟩
def stE (m : EnumS) : EnumS := ⟨m.f0, m.f1.map stV, 0⟩
def stFi (f : FileS) : FileS := (f.1.map stM, f.2.map stE)
def fdF (one : Int) (f : Fd) : FieldS := ⟨f.1, ⟨#[]⟩, false, one, f.2.1, f.2.2, 0⟩
def addI (m : MAcc) : It → MAcc
  | .pl f => (m.1 ++ [fdF 0 f], m.2.1, m.2.2)
  | .rp f => (m.1 ++ [⟨f.1, ⟨#[]⟩, true, 0, f.2.1, f.2.2, 0⟩], m.2.1, m.2.2)
  | .mp k f => (m.1 ++ [⟨f.1, k, false, 0, f.2.1, f.2.2, 0⟩], m.2.1, m.2.2)
  | .on nm fs => (m.1 ++ fs.map (fdF ((m.2.1.length : Int) + 1)), m.2.1 ++ [nm], m.2.2)
  | .rs n ns => (m.1, m.2.1, m.2.2 ++ n :: ns)
def addV (l : List ValS) (v : ByteArray × Int) : List ValS := l ++ [⟨v.1, v.2, 0⟩]
def addT (f : FileS) : Tp → FileS
  | .ms nm its => (f.1 ++ [⟨nm, (its.foldl addI ([], [], [])).1, (its.foldl addI ([], [], [])).2.1, (its.foldl addI ([], [], [])).2.2, 0⟩], f.2)
  | .en nm vs => (f.1, f.2 ++ [⟨nm, vs.foldl addV [], 0⟩])
def plainW (f : Fd) : Prop := bl f.1 ≠ wRep ∧ bl f.1 ≠ wOneof ∧ bl f.1 ≠ wRes
def itW : It → Prop
  | .pl f => plainW f
  | _ => True
theorem take_run {t : TokS} {k : Int} (h : t.f0 = k) (y : List TokS) : pTake k ⟨t :: y, false⟩ = (t, ⟨y, false⟩) := by rw [pTake_cons, if_pos h]
theorem must_run {t : TokS} {x : List UInt8} (h : isT 3 x t = true) (y : List TokS) : pMust x ⟨t :: y, false⟩ = ⟨y, false⟩ := by rw [pMust_cons, if_pos h]
theorem sgn_yes {t : TokS} {x : List UInt8} (h : isT 3 x t = true) (y : List TokS) : pSign x ⟨t :: y, false⟩ = (true, ⟨y, false⟩) := by rw [pSign_cons, if_pos h]
theorem fdsT_flat : ∀ l : List Fd, fdsT l = (l.map fdT).flatten
  | [] => rfl
  | f :: r => by rw [fdsT, List.map_cons, List.flatten_cons, fdsT_flat r]
theorem itsT_flat : ∀ l : List It, itsT l = (l.map itT).flatten
  | [] => rfl
  | f :: r => by rw [itsT, List.map_cons, List.flatten_cons, itsT_flat r]
theorem valsT_flat : ∀ l : List (ByteArray × Int), valsT l = (l.map fun v => valT v.1 v.2).flatten
  | [] => rfl
  | f :: r => by rw [valsT, List.map_cons, List.flatten_cons, valsT_flat r]
theorem fold_snoc {α β : Type} (g : α → β) : ∀ (l : List α) (a : List β), l.foldl (fun a x => a ++ [g x]) a = a ++ l.map g
  | [], a => by simp
  | x :: r, a => by rw [List.foldl_cons, fold_snoc g r]; simp
theorem isw (k : Int) (x : List UInt8) (t : TokS) (r : List TokS) : pIs 0 k x ⟨t :: r, false⟩ = isT k x t := rfl
end Go.Proofs.YtddpjjhekhompaaGreatDoor.P
namespace Go.Proofs.YtddpjjhekhompaaGreatDoor.P
open Go.RowKit Go.Proofs.YtddpjjhekhompaaGreatDoorW.PrintWords Go.Proofs.YtddpjjhekhompaaGreatDoorW.PrintLast Go.Proofs.YtddpjjhekhompaaGreatDoorW.PrintMore
set_option linter.unusedVariables false
set_option linter.unusedSimpArgs false
theorem run_take (p : UInt8 → Bool) (c : UInt8) (r : List UInt8) : (c :: r).take (runN p (c :: r)) = c :: r.takeWhile p := by
  simp only [runN]
  rw [Nat.add_comm, List.take_succ_cons]
  congr 1
  exact (List.prefix_iff_eq_take.1 (List.takeWhile_prefix p)).symm
theorem takeWhile_twice (p : UInt8 → Bool) (l : List UInt8) : (l.takeWhile p).takeWhile p = l.takeWhile p := by
  induction l with
  | nil => rfl
  | cons x r ih =>
    by_cases hx : p x = true
    · simp [List.takeWhile_cons, hx, ih]
    · simp [List.takeWhile_cons, hx]
def selfT (kd : Int) (t : List UInt8) (v : Int) : Prop := (kd = 0 ∨ kd = 1) ∧ lex1 t = some (kd, t, v, t.length)
theorem runN_self (p : UInt8 → Bool) (c : UInt8) (r : List UInt8) : runN p (c :: r.takeWhile p) = (c :: r.takeWhile p).length := by
  simp only [runN, takeWhile_twice, List.length_cons]
  omega
theorem lex1_tok (l : List UInt8) (kd : Int) (t : List UInt8) (v : Int) (n : Nat) (h : lex1 l = some (kd, t, v, n)) :
    (selfT kd t v ∧ t.length ≤ l.length) ∨ (kd = 2 ∧ v = 0) ∨ (kd = 3 ∧ v = 0 ∧ t.length = 1) := by
  cases l with
  | nil => cases h
  | cons c r =>
    rw [lex1_cons] at h
    split at h
    · cases h
    · rename_i h4
      split at h
      · rename_i h0
        simp only [Option.some.injEq, Prod.mk.injEq] at h
        obtain ⟨rfl, rfl, rfl, rfl⟩ := h
        refine .inl ⟨⟨.inl rfl, ?_⟩, by rw [List.length_take]; omega⟩
        rw [run_take, lex1_cons, if_neg h4, if_pos h0, runN_self, List.take_length]
      · rename_i h0
        split at h
        · rename_i h1
          split at h
          · rename_i hok
            simp only [Option.some.injEq, Prod.mk.injEq] at h
            obtain ⟨rfl, rfl, rfl, rfl⟩ := h
            refine .inl ⟨⟨.inr rfl, ?_⟩, by rw [List.length_take]; omega⟩
            rw [run_take] at hok ⊢
            rw [lex1_cons, if_neg h4, if_neg h0, if_pos h1, runN_self, List.take_length, if_pos hok]
          · cases h
        · rename_i h1
          split at h
          · obtain ⟨⟨t', n'⟩, h3, h5⟩ := Option.map_eq_some_iff.mp h
            simp only [Prod.mk.injEq] at h5
            obtain ⟨rfl, rfl, rfl, rfl⟩ := h5
            exact .inr (.inl ⟨rfl, rfl⟩)
          · simp only [Option.some.injEq, Prod.mk.injEq] at h
            obtain ⟨rfl, rfl, rfl, rfl⟩ := h
            exact .inr (.inr ⟨rfl, rfl, rfl⟩)
theorem scan_nil (m p : Nat) : scan m p [] = .inl [] := rfl
theorem scan_cases (m p : Nat) (a : List UInt8) (ts : List TokS) (h : scan m p a = .inl ts) : ts = [] ∨ ∃ (k : Nat) (kd : Int) (t : List UInt8) (v : Int) (n : Nat) (us : List TokS),
    lex1 (a.drop k) = some (kd, t, v, n) ∧ 1 ≤ n ∧ k + n ≤ a.length ∧ 0 < m ∧ scan (m - 1) (p + k + n) (a.drop (k + n)) = .inl us ∧ ts = ⟨kd, ⟨t.toArray⟩, v, ((p + k : Nat) : Int)⟩ :: us := by
  unfold scan at h
  have hk := skipN_le false a
  generalize skipN false a = k at h hk
  cases hl : a.drop k with
  | nil => rw [hl, lx_nil] at h; simp only [Sum.inl.injEq] at h; exact .inl h.symm
  | cons c r =>
    have hz := congrArg List.length hl
    rw [List.length_drop, List.length_cons] at hz
    rw [hl, lx_cons] at h
    cases hx : lex1 (c :: r) with
    | none => rw [hx] at h; cases h
    | some y =>
      obtain ⟨kd, t, v, n⟩ := y
      obtain ⟨n1, n2⟩ := lex1_le _ _ _ _ _ hx
      rw [List.length_cons] at n2
      rw [hx] at h
      simp only at h
      split at h
      · cases h
      · rename_i hm
        cases hs : scan (m - 1) (p + k + n) ((c :: r).drop n) with
        | inr e => rw [hs] at h; cases h
        | inl us =>
          rw [hs] at h
          simp only [preE, Sum.inl.injEq] at h
          refine .inr ⟨k, kd, t, v, n, us, by rw [hl]; exact hx, n1, by omega, by omega, ?_, ?_⟩
          · rw [← List.drop_drop, hl]; exact hs
          · rw [← h]; rfl
def tokOk (t : TokS) : Prop := selfT t.f0 (bl t.f1) t.f2 ∨ (t.f0 = 2 ∧ t.f2 = 0) ∨ (t.f0 = 3 ∧ t.f2 = 0 ∧ (bl t.f1).length = 1)
def incT : Int → List TokS → Prop
  | _, [] => True
  | b, t :: ts => b ≤ t.f3 ∧ incT (t.f3 + 1) ts
theorem incT_mono : ∀ (ts : List TokS) (b c : Int), c ≤ b → incT b ts → incT c ts
  | [], _, _, _, _ => trivial
  | _ :: _, _, _, h, ⟨h1, h2⟩ => ⟨by omega, h2⟩
theorem scan_facts : ∀ (d m p : Nat) (a : List UInt8) (ts : List TokS), a.length ≤ d → scan m p a = .inl ts →
    (∀ t ∈ ts, tokOk t ∧ (selfT t.f0 (bl t.f1) t.f2 → t.f1.size ≤ a.length) ∧ t.f3 < p + a.length) ∧ incT p ts := by
  intro d
  induction d with
  | zero =>
    intro m p a ts hd h
    obtain rfl : a = [] := List.length_eq_zero_iff.mp (by omega)
    rw [scan_nil] at h
    injection h with h
    subst h
    exact ⟨fun t ht => (by cases ht), trivial⟩
  | succ d ih =>
    intro m p a ts hd h
    rcases scan_cases m p a ts h with rfl | ⟨k, kd, t, v, n, us, hx, hn, hk, hm, hs, rfl⟩
    · exact ⟨fun t ht => (by cases ht), trivial⟩
    · obtain ⟨g1, g2⟩ := ih _ _ _ _ (by rw [List.length_drop]; omega) hs
      refine ⟨fun u hu => ?_, ?_⟩
      · rcases List.mem_cons.1 hu with rfl | hu
        · have hl := lex1_tok _ _ _ _ _ hx
          refine ⟨Or.elim hl (fun hl => .inl hl.1) (fun hl => .inr hl), fun hself => ?_, by show ((p + k : Nat) : Int) < _; omega⟩
          · show (⟨t.toArray⟩ : ByteArray).size ≤ a.length
            rw [← bl_length]
            show t.length ≤ a.length
            have h9 : kd = 0 ∨ kd = 1 := hself.1
            rcases hl with hl | hl | hl
            · have := hl.2; rw [List.length_drop] at this; omega
            · exfalso; have := hl.1; omega
            · exfalso; have := hl.1; omega
        · obtain ⟨q1, q2, q3⟩ := g1 u hu
          rw [List.length_drop] at q2 q3
          exact ⟨q1, fun hh => by have := q2 hh; omega, by omega⟩
      · refine ⟨by show (p : Int) ≤ ((p + k : Nat) : Int); omega, incT_mono us _ _ ?_ g2⟩
        show ((p + k : Nat) : Int) + 1 ≤ ((p + k + n : Nat) : Int)
        omega
theorem preE_len (ts us : List TokS) (x) (h : preE ts x = .inl us) : ∃ vs, x = .inl vs ∧ us = ts ++ vs := by
  cases x with
  | inr e => cases h
  | inl vs => simp only [preE, Sum.inl.injEq] at h; exact ⟨vs, rfl, h.symm⟩
theorem scan_cut : ∀ (d M m p : Nat) (a : List UInt8) (ts : List TokS), a.length ≤ d → scan M p a = .inl ts → (ts.length ≤ m → scan m p a = .inl ts) ∧ (m < ts.length → ∃ q, scan m p a = .inr (q, 2)) := by
  intro d
  induction d with
  | zero =>
    intro M m p a ts hd h
    obtain rfl : a = [] := List.length_eq_zero_iff.mp (by omega)
    rw [scan_nil] at h
    injection h with h
    subst h
    exact ⟨fun _ => scan_nil _ _, fun h => by simp at h⟩
  | succ d ih =>
    intro M m p a ts hd h
    have h0 := h
    unfold scan at h ⊢
    have hk := skipN_le false a
    generalize skipN false a = k at h hk ⊢
    cases hl : a.drop k with
    | nil => rw [hl, lx_nil] at h; simp only [Sum.inl.injEq] at h; subst h; exact ⟨fun _ => lx_nil _ _, fun h => by simp at h⟩
    | cons c r =>
      have hz := congrArg List.length hl
      rw [List.length_drop, List.length_cons] at hz
      rw [hl, lx_cons] at h
      rw [lx_cons]
      cases hx : lex1 (c :: r) with
      | none => rw [hx] at h; cases h
      | some y =>
        obtain ⟨kd, t, v, n⟩ := y
        obtain ⟨n1, n2⟩ := lex1_le _ _ _ _ _ hx
        rw [List.length_cons] at n2
        rw [hx] at h
        simp only at h ⊢
        split at h
        · cases h
        · obtain ⟨vs, hv, rfl⟩ := preE_len _ _ _ h
          obtain ⟨i1, i2⟩ := ih (M - 1) (m - 1) _ _ _ (by rw [List.length_drop, List.length_cons]; omega) hv
          simp only [List.length_append, List.length_cons, List.length_nil]
          refine ⟨fun hle => ?_, fun hlt => ?_⟩
          · rw [if_neg (by omega), i1 (by omega)]; rfl
          · by_cases hm : m = 0
            · rw [if_pos hm]; exact ⟨_, rfl⟩
            · rw [if_neg hm]
              obtain ⟨q, hq⟩ := i2 (by omega)
              exact ⟨q, by rw [hq]; rfl⟩
end Go.Proofs.YtddpjjhekhompaaGreatDoor.P
namespace Go.Proofs.YtddpjjhekhompaaGreatDoor.P
open Go.RowKit Go.Proofs.YtddpjjhekhompaaGreatDoorW.PrintWords Go.Proofs.YtddpjjhekhompaaGreatDoorW.PrintLast Go.Proofs.YtddpjjhekhompaaGreatDoorW.PrintMore
set_option linter.unusedVariables false
set_option linter.unusedSimpArgs false
def NmOk (x : ByteArray) : Prop := lex1 (bl x) = some (0, bl x, 0, (bl x).length) ∧ x.size ≤ 1500
def NuOk (n : Int) : Prop := rngI n ∧ (Lib.itoa n).length ≤ 1500
def TkOk (t : TokS) : Prop := tokOk t ∧ (selfT t.f0 (bl t.f1) t.f2 → t.f1.size ≤ 1500)
theorem lex_val (l : List UInt8) (k : Int) (t : List UInt8) (v : Int) (n : Nat) (h : lex1 l = some (k, t, v, n)) : (k = 0 → v = 0) ∧ (k = 1 → numOk t = true ∧ v = numV t) := by
  cases l with
  | nil => cases h
  | cons b r =>
    rw [lex1_cons] at h
    split at h
    · cases h
    · split at h
      · simp only [Option.some.injEq, Prod.mk.injEq] at h
        obtain ⟨rfl, _, rfl, _⟩ := h
        exact ⟨fun _ => rfl, fun h => absurd h (by decide)⟩
      · split at h
        · split at h
          · rename_i hk
            simp only [Option.some.injEq, Prod.mk.injEq] at h
            obtain ⟨rfl, rfl, rfl, _⟩ := h
            exact ⟨fun h => absurd h (by decide), fun _ => ⟨hk, rfl⟩⟩
          · cases h
        · split at h
          · obtain ⟨y, _, h2⟩ := Option.map_eq_some_iff.1 h
            simp only [Prod.mk.injEq] at h2
            obtain ⟨rfl, _⟩ := h2
            exact ⟨fun h => absurd h (by decide), fun h => absurd h (by decide)⟩
          · simp only [Option.some.injEq, Prod.mk.injEq] at h
            obtain ⟨rfl, _⟩ := h
            exact ⟨fun h => absurd h (by decide), fun h => absurd h (by decide)⟩
theorem tk_nm {t : TokS} (h : TkOk t) (h0 : t.f0 = 0) : NmOk t.f1 := by
  obtain ⟨h1, h2⟩ := h
  rcases h1 with h1 | h1 | h1
  · have h3 := h1.2
    have h4 := (lex_val _ _ _ _ _ h3).1 h0
    rw [h0, h4] at h3
    exact ⟨h3, h2 h1⟩
  · exact absurd (h1.1.symm.trans h0) (by decide)
  · exact absurd (h1.1.symm.trans h0) (by decide)
theorem tk_nu {t : TokS} (h : TkOk t) (h0 : t.f0 = 1) : NuOk t.f2 := by
  obtain ⟨h1, h2⟩ := h
  rcases h1 with h1 | h1 | h1
  · obtain ⟨h4, h5⟩ := (lex_val _ _ _ _ _ h1.2).2 h0
    have h6 := h2 h1
    unfold numOk at h4
    cases hp : Lib.parseIntB 64 (bl t.f1) with
    | ok v =>
      rw [hp] at h4
      have h7 : numV (bl t.f1) = v := by unfold numV; rw [hp]
      rw [h5, h7]
      refine ⟨parse_range _ _ hp, ?_⟩
      rw [of_decide_eq_true h4, bl_length]
      exact h6
    | _ => rw [hp] at h4; cases h4
  · exact absurd (h1.1.symm.trans h0) (by decide)
  · exact absurd (h1.1.symm.trans h0) (by decide)
def FdOk (f : Fd) : Prop := NmOk f.1 ∧ NmOk f.2.1 ∧ NuOk f.2.2
def ItOk : It → Prop
  | .pl f => FdOk f
  | .rp f => FdOk f
  | .mp k f => NmOk k ∧ FdOk f
  | .on nm fs => NmOk nm ∧ ∀ f ∈ fs, FdOk f
  | .rs n ns => NuOk n ∧ ∀ x ∈ ns, NuOk x
def VOk (v : ByteArray × Int) : Prop := NmOk v.1 ∧ NuOk v.2
def TpOk : Tp → Prop
  | .ms nm its => NmOk nm ∧ ∀ it ∈ its, ItOk it ∧ itW it
  | .en nm vs => NmOk nm ∧ ∀ v ∈ vs, VOk v
theorem take_false {k : Int} {s : PS} (h : (pTake k s).2.b = false) : s.b = false := by
  cases hb : s.b with
  | false => rfl
  | true => rw [pTake_bad _ _ hb, hb] at h; cases h
theorem must_false {x : List UInt8} {s : PS} (h : (pMust x s).b = false) : s.b = false := by
  cases hb : s.b with
  | false => rfl
  | true => rw [pMust_bad _ _ hb, hb] at h; cases h
theorem take_inv {k : Int} {s : PS} (h : (pTake k s).2.b = false) : ∃ t r, s = ⟨t :: r, false⟩ ∧ t.f0 = k ∧ pTake k s = (t, ⟨r, false⟩) := by
  have hb := take_false h
  obtain ⟨r, b⟩ := s
  cases hb
  cases r with
  | nil => cases h
  | cons t r =>
    by_cases hk : t.f0 = k
    · exact ⟨t, r, rfl, hk, take_run hk r⟩
    · rw [pTake_cons, if_neg hk] at h; cases h
theorem must_inv {x : List UInt8} {s : PS} (h : (pMust x s).b = false) : ∃ t r, s = ⟨t :: r, false⟩ ∧ isT 3 x t = true ∧ pMust x s = ⟨r, false⟩ := by
  have hb := must_false h
  obtain ⟨r, b⟩ := s
  cases hb
  cases r with
  | nil => cases h
  | cons t r =>
    by_cases hk : isT 3 x t = true
    · exact ⟨t, r, rfl, hk, must_run hk r⟩
    · rw [pMust_cons, if_neg hk] at h; cases h
theorem named_inv {s : PS} (h : (pNamed s).2.b = false) : ∃ t1 t2 t3 t4 r, s = ⟨t1 :: t2 :: t3 :: t4 :: r, false⟩ ∧ t1.f0 = 0 ∧ t3.f0 = 1 ∧ pNamed s = ((t1.f1, t3.f2), ⟨r, false⟩) := by
  unfold pNamed at h ⊢
  simp only at h ⊢
  obtain ⟨t4, r4, e4, k4, g4⟩ := must_inv h
  obtain ⟨t3, r3, e3, k3, g3⟩ := take_inv (show (pTake 1 (pMust [61] (pTake 0 s).2)).2.b = false by rw [e4])
  obtain ⟨t2, r2, e2, k2, g2⟩ := must_inv (show (pMust [61] (pTake 0 s).2).b = false by rw [e3])
  obtain ⟨t1, r1, e1, k1, g1⟩ := take_inv (show (pTake 0 s).2.b = false by rw [e2])
  have q1 : r1 = t2 :: r2 := by rw [g1] at e2; injection e2
  have q2 : r2 = t3 :: r3 := by rw [g2] at e3; injection e3
  have q3 : r3 = t4 :: r4 := by rw [g3] at e4; injection e4
  rw [g4, g3, g1]
  subst q3 q2 q1
  exact ⟨t1, t2, t3, t4, r4, e1, k1, k3, rfl⟩
theorem field_inv {one e : Int} {s : PS} (h : (pField e one s).2.b = false) (hT : ∀ t ∈ s.r, TkOk t) : ∃ (f : Fd) (t t2 : TokS) (c r : List TokS), s = ⟨t :: t2 :: c ++ r, false⟩ ∧ t.f0 = 0 ∧ t.f1 = f.1 ∧ t2.f0 = 0 ∧ c.length = 3 ∧ FdOk f ∧ (pField e one s).2 = ⟨r, false⟩ ∧ stF (pField e one s).1 = fdF one f := by
  unfold pField at h ⊢
  simp only at h ⊢
  obtain ⟨t1, t2, t3, t4, r, e2, k1, k3, g⟩ := named_inv h
  obtain ⟨t0, r0, e1, k0, g0⟩ := take_inv (show (pTake 0 s).2.b = false by rw [e2])
  rw [g0] at e2 g ⊢
  simp only at e2 g ⊢
  injection e2 with e2
  subst e2
  rw [e1] at hT
  rw [g]
  refine ⟨(t0.f1, t1.f1, t3.f2), t0, t1, [t2, t3, t4], r, e1, k0, rfl, k1, rfl, ⟨tk_nm (hT t0 (by simp)) k0, tk_nm (hT t1 (by simp)) k1, tk_nu (hT t3 (by simp)) k3⟩, rfl, rfl⟩
theorem sign_f (x : List UInt8) (r : List TokS) : pSign x ⟨r, false⟩ = (false, ⟨r, false⟩) ∨ ∃ t r', r = t :: r' ∧ isT 3 x t = true ∧ pSign x ⟨r, false⟩ = (true, ⟨r', false⟩) := by
  cases r with
  | nil => exact .inl rfl
  | cons t r =>
    by_cases h : isT 3 x t = true
    · exact .inr ⟨t, r, rfl, h, sgn_yes h r⟩
    · rw [pSign_cons, if_neg h]; exact .inl rfl
theorem loop_inv {α β γ : Type} (x : List UInt8) {P : α → Int → PS → α × PS} (hP : ∀ a, Good (P a)) (st : α → γ) (add : γ → β → γ) (tk : β → List Br) (ok : β → Prop)
    (hinv : ∀ a e r, (P a e ⟨r, false⟩).2.b = false → (∀ t ∈ r, TkOk t) → ∃ b c r', r = c ++ r' ∧ (P a e ⟨r, false⟩).2 = ⟨r', false⟩ ∧ st (P a e ⟨r, false⟩).1 = add (st a) b ∧ ok b ∧ c.length = (tk b).length) :
    ∀ (n : Nat) (a : α) (e : Int) (r : List TokS), r.length ≤ n → (pLoopW x P a e ⟨r, false⟩).2.b = false → (∀ t ∈ r, TkOk t) →
      ∃ (l : List β) (c r' : List TokS), r = c ++ r' ∧ (pLoopW x P a e ⟨r, false⟩).2 = ⟨r', false⟩ ∧ st (pLoopW x P a e ⟨r, false⟩).1 = l.foldl add (st a) ∧ (∀ b ∈ l, ok b) ∧ c.length = (l.map tk).flatten.length + 1 := by
  intro n
  induction n with
  | zero =>
    intro a e r hn hb _
    obtain rfl : r = [] := List.length_eq_zero_iff.1 (by omega)
    rw [pLoopW_eq x hP a e _ rfl, pSign_nil, if_neg (by decide), (hP a).nil e, pLoopW_stay _ _ _ _ _ rfl] at hb
    cases hb
  | succ n ih =>
    intro a e r hn hb hT
    rw [pLoopW_eq x hP a e _ rfl] at hb ⊢
    rcases sign_f x r with h | ⟨t, r', rfl, h1, h2⟩
    · rw [h] at hb ⊢
      rw [if_neg Bool.false_ne_true] at hb ⊢
      have h1 : (P a e ⟨r, false⟩).2.b = false := by
        cases hq : (P a e ⟨r, false⟩).2.b with
        | false => rfl
        | true => rw [pLoopW_stay _ _ _ _ _ hq, hq] at hb; cases hb
      obtain ⟨c0, hc0, hr0, _⟩ := (hP a).good e r h1
      obtain ⟨b, c, r', hr, h2, h3, h4, h5⟩ := hinv a e r h1 hT
      rw [h2] at hb hr0 ⊢
      have hl : r'.length ≤ n := by
        have e1 := congrArg List.length hr0
        rw [List.length_append] at e1
        have : 0 < c0.length := List.length_pos_iff.2 hc0
        simp only at e1
        omega
      obtain ⟨l, c2, r2, g1, g2, g3, g4, g5⟩ := ih _ e r' hl hb (fun t ht => hT t (by rw [hr]; simp [ht]))
      refine ⟨b :: l, c ++ c2, r2, by rw [hr, g1, List.append_assoc], g2, ?_, fun y hy => ?_, ?_⟩
      · rw [g3, h3]; rfl
      · rcases List.mem_cons.1 hy with rfl | hy
        · exact h4
        · exact g4 y hy
      · rw [List.map_cons, List.flatten_cons, List.length_append, List.length_append]
        omega
    · rw [h2, if_pos rfl]
      exact ⟨[], [t], r', rfl, rfl, rfl, fun _ hb => absurd hb List.not_mem_nil, rfl⟩
theorem numM_inv : ∀ (n : Nat) (a : List Int) (r : List TokS), r.length ≤ n → (pNumM a ⟨r, false⟩).2.b = false → (∀ t ∈ r, TkOk t) → ∃ m ns c r', r = c ++ r' ∧ pNumM a ⟨r, false⟩ = (a ++ m :: ns, ⟨r', false⟩) ∧ NuOk m ∧ (∀ x ∈ ns, NuOk x) ∧ c.length = (comT ns).length + 2 := by
  intro n
  induction n with
  | zero =>
    intro a r hn hb _
    obtain rfl : r = [] := List.length_eq_zero_iff.1 (by omega)
    rw [pNumM_nil] at hb
    cases hb
  | succ n ih =>
    intro a r hn hb hT
    cases r with
    | nil => rw [pNumM_nil] at hb; cases hb
    | cons t r =>
      by_cases h1 : t.f0 = 1
      · have hN := tk_nu (hT t (by simp)) h1
        cases r with
        | nil => rw [pNumM_one _ _ h1] at hb; cases hb
        | cons u r =>
          rw [pNumM_two _ _ _ _ h1] at hb ⊢
          by_cases h2 : isT 3 [44] u = true
          · rw [if_pos h2] at hb ⊢
            obtain ⟨m, ns, c, r', g1, g2, g3, g4, g5⟩ := ih (a ++ [t.f2]) r (by simp only [List.length_cons] at hn; omega) hb (fun x hx => hT x (by simp [hx]))
            refine ⟨t.f2, m :: ns, t :: u :: c, r', by rw [g1]; rfl, by rw [g2]; simp, hN, fun x hx => ?_, ?_⟩
            · rcases List.mem_cons.1 hx with rfl | hx
              · exact g3
              · exact g4 x hx
            · simp only [comT, List.length_cons, g5]
          · rw [if_neg h2] at hb ⊢
            by_cases h3 : isT 3 [59] u = true
            · rw [if_pos h3]
              exact ⟨t.f2, [], [t, u], r, rfl, rfl, hN, fun _ hx => absurd hx List.not_mem_nil, rfl⟩
            · rw [if_neg h3] at hb; cases hb
      · rw [pNumM_no _ _ _ h1] at hb; cases hb
theorem isT_txt {k : Int} {x : List UInt8} {t : TokS} (h0 : t.f0 = k) (h : isT k x t = false) : bl t.f1 ≠ x := by
  intro e
  unfold isT at h
  rw [h0, e] at h
  simp at h
theorem item_inv (m : MAcc) (e : Int) (r : List TokS) (h : (pItem m e ⟨r, false⟩).2.b = false) (hT : ∀ t ∈ r, TkOk t) : ∃ it c r', r = c ++ r' ∧ (pItem m e ⟨r, false⟩).2 = ⟨r', false⟩ ∧ stA (pItem m e ⟨r, false⟩).1 = addI (stA m) it ∧ (ItOk it ∧ itW it) ∧ c.length = (itT it).length := by
  rw [pItem_eq] at h ⊢
  cases r with
  | nil =>
    rw [show pIs 0 0 wRep ⟨[], false⟩ = false from rfl, show pIs 0 0 wOneof ⟨[], false⟩ = false from rfl, show pIs 0 0 wRes ⟨[], false⟩ = false from rfl, show isMap ⟨[], false⟩ = false from rfl] at h
    simp only [Bool.false_eq_true, if_false] at h
    rw [(plain_good m).nil e] at h
    cases h
  | cons t r =>
    rw [isw, isw, isw] at h ⊢
    by_cases h1 : isT 0 wRep t = true
    · rw [if_pos h1] at h ⊢
      unfold pRep at h ⊢
      rw [take_run (isT_kind h1)] at h ⊢
      obtain ⟨f, t1, t2, c, r', hs, k1, _, k2, hc, ok, g1, g2⟩ := field_inv h (fun x hx => hT x (by simp only at hx; simp [hx]))
      injection hs with hs
      refine ⟨.rp f, t :: t1 :: t2 :: c, r', by rw [hs]; rfl, g1, ?_, ⟨ok, trivial⟩, by simp [itT, fdT, valT, hc]⟩
      unfold stA addI
      simp only [List.map_append, List.map_cons, List.map_nil]
      have e2 : ∀ (g : FieldS) (q : Int), stF (repF g q) = ⟨(stF g).f0, (stF g).f1, true, (stF g).f3, (stF g).f4, (stF g).f5, 0⟩ := fun _ _ => rfl
      rw [e2, g2]
      rfl
    · rw [if_neg h1] at h ⊢
      by_cases h2 : isT 0 wOneof t = true
      · rw [if_pos h2] at h ⊢
        unfold pOneof at h ⊢
        simp only at h ⊢
        rw [take_run (isT_kind h2)] at h ⊢
        have hb1 : (pMust [123] (pTake 0 ⟨r, false⟩).2).b = false := by
          cases hq : (pMust [123] (pTake 0 ⟨r, false⟩).2).b with
          | false => rfl
          | true =>
            simp only at h
            rw [pLoopW_stay _ _ _ _ _ hq, hq] at h
            cases h
        obtain ⟨t3, r3, e3, k3, g3⟩ := must_inv hb1
        obtain ⟨t2, r2, e2, k2, g2⟩ := take_inv (show (pTake 0 ⟨r, false⟩).2.b = false by rw [e3])
        rw [g2] at h e3 g3 ⊢
        simp only at h e3 g3 ⊢
        injection e3 with e3
        subst e3
        injection e2 with e2
        subst e2
        rw [g3] at h ⊢
        obtain ⟨l, c, r', q1, q2, q3, q4, q5⟩ := loop_inv [125] (P := pOne ((m.2.1.length : Int) + 1)) (one_good _) (List.map stF) (fun l f => l ++ [fdF ((m.2.1.length : Int) + 1) f]) fdT FdOk
          (fun a e r hr hT => by
            obtain ⟨f, t, t2, c, r', hs, _, _, _, hc, ok, g1, g2⟩ := field_inv (s := ⟨r, false⟩) hr hT
            injection hs with hs
            exact ⟨f, t :: t2 :: c, r', hs, g1, by unfold pOne; simp only [List.map_append, List.map_cons, List.map_nil]; rw [g2], ok, by simp [fdT, valT, hc]⟩)
          r3.length m.1 e r3 (Nat.le_refl _) h (fun x hx => hT x (by simp [hx]))
        refine ⟨.on t2.f1 l, t :: t2 :: t3 :: c, r', by rw [q1]; rfl, q2, ?_, ⟨⟨tk_nm (hT t2 (by simp)) k2, q4⟩, trivial⟩, ?_⟩
        · unfold stA addI
          simp only
          rw [q3, fold_snoc]
        · simp only [itT, List.length_cons, List.length_append, List.length_nil, q5, fdsT_flat]
      · rw [if_neg h2] at h ⊢
        by_cases h3 : isT 0 wRes t = true
        · rw [if_pos h3] at h ⊢
          have hr : (pNumM m.2.2 ⟨r, false⟩).2.b = false := by
            unfold pRes at h
            rw [take_run (isT_kind h3)] at h
            exact h
          obtain ⟨n, ns, c, r', q1, q2, q3, q4, q5⟩ := numM_inv r.length m.2.2 r (Nat.le_refl _) hr (fun x hx => hT x (by simp [hx]))
          have e1 : (pNums (r.length + 1) m.2.2 ⟨r, false⟩).1 = m.2.2 ++ n :: ns := congrArg Prod.fst q2
          have e2 : pMust [59] (pNums (r.length + 1) m.2.2 ⟨r, false⟩).2 = ⟨r', false⟩ := congrArg Prod.snd q2
          unfold pRes
          rw [take_run (isT_kind h3)]
          refine ⟨.rs n ns, t :: c, r', by rw [q1]; rfl, e2, ?_, ⟨⟨q3, q4⟩, trivial⟩, by simp only [itT, List.length_cons, List.length_append, List.length_nil, q5]⟩
          unfold stA addI
          simp only
          rw [e1]
        · rw [if_neg h3] at h ⊢
          by_cases h4 : isMap ⟨t :: r, false⟩ = true
          · rw [if_pos h4] at h ⊢
            unfold pMap pMapT at h ⊢
            simp only at h ⊢
            obtain ⟨u1, u2, u3, u4, r', e7, k7, k8, g7⟩ := named_inv h
            obtain ⟨t6, r6, e6, k6, g6⟩ := must_inv (show (pMust [62] (pTake 0 (pMust [44] (pTake 0 (pMust [60] (pTake 0 ⟨t :: r, false⟩).2)).2)).2).b = false by rw [e7])
            obtain ⟨t5, r5, e5, k5, g5⟩ := take_inv (show (pTake 0 (pMust [44] (pTake 0 (pMust [60] (pTake 0 ⟨t :: r, false⟩).2)).2)).2.b = false by rw [e6])
            obtain ⟨t4, r4, e4, k4, g4⟩ := must_inv (show (pMust [44] (pTake 0 (pMust [60] (pTake 0 ⟨t :: r, false⟩).2)).2).b = false by rw [e5])
            obtain ⟨t3, r3, e3, k3, g3⟩ := take_inv (show (pTake 0 (pMust [60] (pTake 0 ⟨t :: r, false⟩).2)).2.b = false by rw [e4])
            obtain ⟨t2, r2, e2, k2, g2⟩ := must_inv (show (pMust [60] (pTake 0 ⟨t :: r, false⟩).2).b = false by rw [e3])
            obtain ⟨t1, r1, e1, k1, g1⟩ := take_inv (show (pTake 0 ⟨t :: r, false⟩).2.b = false by rw [e2])
            have q1 : r1 = t2 :: r2 := by rw [g1] at e2; injection e2
            have q2 : r2 = t3 :: r3 := by rw [g2] at e3; injection e3
            have q3 : r3 = t4 :: r4 := by rw [g3] at e4; injection e4
            have q4 : r4 = t5 :: r5 := by rw [g4] at e5; injection e5
            have q5 : r5 = t6 :: r6 := by rw [g5] at e6; injection e6
            have q6 : r6 = u1 :: u2 :: u3 :: u4 :: r' := by rw [g6] at e7; injection e7
            rw [g7, g5, g3]
            subst q6 q5 q4 q3 q2 q1
            injection e1 with e1 _
            rw [e1] at hT ⊢
            refine ⟨.mp t3.f1 (t5.f1, u1.f1, u3.f2), [t1, t2, t3, t4, t5, t6, u1, u2, u3, u4], r', rfl, rfl, ?_, ⟨⟨tk_nm (hT t3 (by simp)) k3, tk_nm (hT t5 (by simp)) k5, tk_nm (hT u1 (by simp)) k7, tk_nu (hT u3 (by simp)) k8⟩, trivial⟩, rfl⟩
            unfold stA addI
            simp only [List.map_append, List.map_cons, List.map_nil, stF]
          · rw [if_neg h4] at h ⊢
            unfold pPlain at h ⊢
            simp only at h ⊢
            obtain ⟨f, t1, t2, c, r', hs, k1, k1', k2, hc, ok, g1, g2⟩ := field_inv h hT
            injection hs with hs _
            injection hs with ha hb
            subst ha
            refine ⟨.pl f, t :: t2 :: c, r', by rw [hb]; rfl, g1, ?_, ⟨ok, ?_⟩, by simp [itT, fdT, valT, hc]⟩
            · unfold stA addI
              simp only [List.map_append, List.map_cons, List.map_nil, g2]
            · show bl f.1 ≠ wRep ∧ bl f.1 ≠ wOneof ∧ bl f.1 ≠ wRes
              rw [← k1']
              exact ⟨isT_txt k1 (by simpa using h1), isT_txt k1 (by simpa using h2), isT_txt k1 (by simpa using h3)⟩
theorem loopW_false {α : Type} {x : List UInt8} {P : α → Int → PS → α × PS} {a : α} {e : Int} {s : PS} (h : (pLoopW x P a e s).2.b = false) : s.b = false := by
  cases hq : s.b with
  | false => rfl
  | true => rw [pLoopW_stay _ _ _ _ _ hq, hq] at h; cases h
theorem tp_inv (f : FileS) (e : Int) (r : List TokS) (h : (pTop1 f e ⟨r, false⟩).2.b = false) (hT : ∀ t ∈ r, TkOk t) : ∃ x c r', r = c ++ r' ∧ (pTop1 f e ⟨r, false⟩).2 = ⟨r', false⟩ ∧ stFi (pTop1 f e ⟨r, false⟩).1 = addT (stFi f) x ∧ TpOk x ∧ c.length = (tpT x).length := by
  cases r with
  | nil => exact absurd (show true = false from h) (by decide)
  | cons t r =>
    unfold pTop1 at h ⊢
    rw [isw, isw] at h ⊢
    by_cases h1 : isT 0 wMsg t = true
    · rw [if_pos h1] at h ⊢
      unfold pMsg at h ⊢
      simp only at h ⊢
      rw [take_run (isT_kind h1)] at h ⊢
      obtain ⟨t3, r3, e3, k3, g3⟩ := must_inv (loopW_false h)
      obtain ⟨t2, r2, e2, k2, g2⟩ := take_inv (show (pTake 0 ⟨r, false⟩).2.b = false by rw [e3])
      rw [g2] at h e3 g3 ⊢
      simp only at h e3 g3 ⊢
      injection e3 with e3
      subst e3
      injection e2 with e2
      subst e2
      rw [g3] at h ⊢
      obtain ⟨l, c, r', q1, q2, q3, q4, q5⟩ := loop_inv [125] (P := pItem) item_good stA addI itT (fun it => ItOk it ∧ itW it) item_inv r3.length ([], [], []) e r3 (Nat.le_refl _) h (fun x hx => hT x (by simp [hx]))
      refine ⟨.ms t2.f1 l, t :: t2 :: t3 :: c, r', by rw [q1]; rfl, q2, ?_, ⟨tk_nm (hT t2 (by simp)) k2, q4⟩, ?_⟩
      · have e0 : stA ([], [], []) = ([], [], []) := rfl
        rw [e0] at q3
        unfold stFi addT
        simp only [List.map_append, List.map_cons, List.map_nil, stM]
        rw [← q3]
        rfl
      · simp only [tpT, List.length_cons, List.length_append, List.length_nil, q5, itsT_flat]
    · rw [if_neg h1] at h ⊢
      by_cases h2 : isT 0 wEnum t = true
      · rw [if_pos h2] at h ⊢
        unfold pEnum at h ⊢
        simp only at h ⊢
        rw [take_run (isT_kind h2)] at h ⊢
        obtain ⟨t3, r3, e3, k3, g3⟩ := must_inv (loopW_false h)
        obtain ⟨t2, r2, e2, k2, g2⟩ := take_inv (show (pTake 0 ⟨r, false⟩).2.b = false by rw [e3])
        rw [g2] at h e3 g3 ⊢
        simp only at h e3 g3 ⊢
        injection e3 with e3
        subst e3
        injection e2 with e2
        subst e2
        rw [g3] at h ⊢
        obtain ⟨l, c, r', q1, q2, q3, q4, q5⟩ := loop_inv [125] (P := pVal) val_good (List.map stV) addV (fun v => valT v.1 v.2) VOk
          (fun a e r hr hT => by
            unfold pVal at hr ⊢
            obtain ⟨u1, u2, u3, u4, r', hs, k1, k3, g⟩ := named_inv (s := ⟨r, false⟩) hr
            injection hs with hs
            rw [hs] at hT
            rw [g]
            exact ⟨(u1.f1, u3.f2), [u1, u2, u3, u4], r', hs, rfl, by unfold addV; simp only [List.map_append, List.map_cons, List.map_nil, stV], ⟨tk_nm (hT u1 (by simp)) k1, tk_nu (hT u3 (by simp)) k3⟩, rfl⟩)
          r3.length [] e r3 (Nat.le_refl _) h (fun x hx => hT x (by simp [hx]))
        refine ⟨.en t2.f1 l, t :: t2 :: t3 :: c, r', by rw [q1]; rfl, q2, ?_, ⟨tk_nm (hT t2 (by simp)) k2, q4⟩, ?_⟩
        · unfold stFi addT
          simp only [List.map_append, List.map_cons, List.map_nil, stE]
          rw [q3]
          rfl
        · simp only [tpT, List.length_cons, List.length_append, List.length_nil, q5, valsT_flat]
      · rw [if_neg h2] at h
        cases h
theorem tps_inv : ∀ (n : Nat) (f : FileS) (e : Int) (r : List TokS) (k : Nat), r.length ≤ n → r.length < k → (pTop k f e ⟨r, false⟩).2.b = false → (∀ t ∈ r, TkOk t) →
    ∃ l, stFi (pTop k f e ⟨r, false⟩).1 = l.foldl addT (stFi f) ∧ (∀ x ∈ l, TpOk x) ∧ r.length = (tpsT l).length := by
  intro n
  induction n with
  | zero =>
    intro f e r k hn hk hb _
    obtain rfl : r = [] := List.length_eq_zero_iff.1 (by omega)
    rw [pTop_nil]
    exact ⟨[], rfl, fun _ hx => absurd hx List.not_mem_nil, rfl⟩
  | succ n ih =>
    intro f e r k hn hk hb hT
    cases r with
    | nil =>
      rw [pTop_nil]
      exact ⟨[], rfl, fun _ hx => absurd hx List.not_mem_nil, rfl⟩
    | cons t r =>
      obtain ⟨k, rfl⟩ : ∃ j, k = j + 1 := ⟨k - 1, by omega⟩
      rw [pTop_step] at hb ⊢
      have h1 : (pTop1 f e ⟨t :: r, false⟩).2.b = false := by
        cases hq : (pTop1 f e ⟨t :: r, false⟩).2.b with
        | false => rfl
        | true => rw [pTop_stay _ _ _ _ hq, hq] at hb; cases hb
      obtain ⟨x, c, r', g1, g2, g3, g4, g5⟩ := tp_inv f e (t :: r) h1 hT
      have hc : 0 < c.length := by
        rw [g5]
        cases x <;> simp [tpT]
      rw [g2] at hb ⊢
      have hl := congrArg List.length g1
      rw [List.length_append] at hl
      obtain ⟨l, q1, q2, q3⟩ := ih (pTop1 f e ⟨t :: r, false⟩).1 e r' k (by omega) (by simp only [List.length_cons] at hk hl; omega) hb (fun u hu => hT u (by rw [g1]; simp [hu]))
      refine ⟨x :: l, ?_, fun y hy => ?_, ?_⟩
      · rw [q1, g3]; rfl
      · rcases List.mem_cons.1 hy with rfl | hy
        · exact g4
        · exact q2 y hy
      · rw [tpsT, List.length_append, hl]; omega
end Go.Proofs.YtddpjjhekhompaaGreatDoor.P
namespace Go.Proofs.YtddpjjhekhompaaGreatDoor.P
end Go.Proofs.YtddpjjhekhompaaGreatDoor.P
namespace Go.Proofs.YtddpjjhekhompaaGreatDoor.P
end Go.Proofs.YtddpjjhekhompaaGreatDoor.P
namespace Go.Proofs.YtddpjjhekhompaaGreatDoor.P
open Go.RowKit Go.Proofs.YtddpjjhekhompaaGreatDoorW.PrintWords Go.Proofs.YtddpjjhekhompaaGreatDoorW.PrintLast Go.Proofs.YtddpjjhekhompaaGreatDoorW.PrintMore
set_option linter.unusedVariables false
set_option linter.unusedSimpArgs false
def rpF (f : Fd) : FieldS := ⟨f.1, ⟨#[]⟩, true, 0, f.2.1, f.2.2, 0⟩
def mpF (k : ByteArray) (f : Fd) : FieldS := ⟨f.1, k, false, 0, f.2.1, f.2.2, 0⟩
def fsOf : Nat → List It → List FieldS
  | _, [] => []
  | k, .pl f :: r => fdF 0 f :: fsOf k r
  | k, .rp f :: r => rpF f :: fsOf k r
  | k, .mp y f :: r => mpF y f :: fsOf k r
  | k, .on _ fs :: r => fs.map (fdF ((k : Int) + 1)) ++ fsOf (k + 1) r
  | k, .rs _ _ :: r => fsOf k r
def onsOf : List It → List ByteArray
  | [] => []
  | .on nm _ :: r => nm :: onsOf r
  | .pl _ :: r => onsOf r
  | .rp _ :: r => onsOf r
  | .mp _ _ :: r => onsOf r
  | .rs _ _ :: r => onsOf r
def resOf : List It → List Int
  | [] => []
  | .rs n ns :: r => n :: ns ++ resOf r
  | .pl _ :: r => resOf r
  | .rp _ :: r => resOf r
  | .mp _ _ :: r => resOf r
  | .on _ _ :: r => resOf r
theorem fold_its : ∀ (l : List It) (m : MAcc), l.foldl addI m = (m.1 ++ fsOf m.2.1.length l, m.2.1 ++ onsOf l, m.2.2 ++ resOf l)
  | [], m => by simp [fsOf, onsOf, resOf]
  | .pl f :: r, m => by rw [List.foldl_cons, fold_its r]; simp [fsOf, onsOf, resOf, addI]
  | .rp f :: r, m => by rw [List.foldl_cons, fold_its r]; simp [fsOf, onsOf, resOf, addI, rpF]
  | .mp k f :: r, m => by rw [List.foldl_cons, fold_its r]; simp [fsOf, onsOf, resOf, addI, mpF]
  | .on nm fs :: r, m => by rw [List.foldl_cons, fold_its r]; simp [fsOf, onsOf, resOf, addI]
  | .rs n ns :: r, m => by rw [List.foldl_cons, fold_its r]; simp [fsOf, onsOf, resOf, addI]
def msOf : List Tp → List MsgS
  | [] => []
  | .ms nm its :: r => ⟨nm, fsOf 0 its, onsOf its, resOf its, 0⟩ :: msOf r
  | .en _ _ :: r => msOf r
def ensOf : List Tp → List EnumS
  | [] => []
  | .ms _ _ :: r => ensOf r
  | .en nm vs :: r => ⟨nm, vs.foldl addV [], 0⟩ :: ensOf r
theorem fold_tps : ∀ (l : List Tp) (f : FileS), l.foldl addT f = (f.1 ++ msOf l, f.2 ++ ensOf l)
  | [], f => by simp [msOf, ensOf]
  | .ms nm its :: r, f => by rw [List.foldl_cons, fold_tps r]; simp [msOf, ensOf, addT, fold_its]
  | .en nm vs :: r, f => by rw [List.foldl_cons, fold_tps r]; simp [msOf, ensOf, addT]
end Go.Proofs.YtddpjjhekhompaaGreatDoor.P
namespace Go.Proofs.YtddpjjhekhompaaGreatDoor.P
open Go.RowKit Go.Proofs.YtddpjjhekhompaaGreatDoorW.PrintWords Go.Proofs.YtddpjjhekhompaaGreatDoorW.PrintLast Go.Proofs.YtddpjjhekhompaaGreatDoorW.PrintMore
set_option linter.unusedVariables false
set_option linter.unusedSimpArgs false
theorem inc_mem : ∀ (ts : List TokS) (b : Int), incT b ts → ∀ t ∈ ts, b ≤ t.f3
  | [], _, _, _, ht => by cases ht
  | x :: ts, b, ⟨h1, h2⟩, t, ht => by
    rcases List.mem_cons.1 ht with rfl | ht
    · exact h1
    · have := inc_mem ts (x.f3 + 1) h2 t ht
      omega
theorem allF_scan (s : ByteArray) (h : s.size ≤ 5000) : allF s = endL s [] (scan 1000 0 (bl s)) := by
  have := all_small s h
  unfold token_All.f at this
  exact Option.some.inj this
theorem parse_at (s : ByteArray) (h : s.size ≤ 5000) : 0 ≤ (parseF s).2.1 ∧ (parseF s).2.1 ≤ (s.size : Int) := by
  have hl := bl_length s
  unfold parseF
  rw [allF_scan s h]
  cases hB : scan 1000 0 (bl s) with
  | inr x =>
    obtain ⟨q, e⟩ := x
    obtain ⟨h1, h2, h3⟩ := scan_err _ 1000 0 (bl s) q e (Nat.le_refl _) hB
    have he : e ≠ 0 := by omega
    rw [show endL s [] (.inr (q, e)) = ([], (q : Int), e) from rfl, if_pos (show (([], (q : Int), e) : List TokS × Int × Int).2.2 ≠ 0 from he)]
    constructor <;> dsimp only <;> omega
  | inl ts =>
    obtain ⟨f1, f2⟩ := scan_facts _ 1000 0 (bl s) ts (Nat.le_refl _) hB
    rw [show endL s [] (.inl ts) = (ts, (s.size : Int), 0) from rfl, if_neg (show ¬ ((ts, (s.size : Int), 0) : List TokS × Int × Int).2.2 ≠ 0 from fun h => h rfl)]
    dsimp only
    by_cases hb : (pAll (s.size : Int) ts).2.b = true
    · rw [if_pos hb]
      obtain ⟨c, hc, _⟩ := top_bad ts.length ([], []) (s.size : Int) ts (Nat.le_refl _) hb
      have hc2 : ts = c ++ (pAll (s.size : Int) ts).2.r := hc
      unfold pAt
      cases hr : (pAll (s.size : Int) ts).2.r with
      | nil => constructor <;> dsimp only <;> omega
      | cons t r =>
        have hm : t ∈ ts := by rw [hc2, hr]; simp
        have g1 := (f1 t hm).2.2
        have g2 := inc_mem ts _ f2 t hm
        constructor <;> dsimp only <;> omega
    · rw [if_neg hb]
      constructor <;> dsimp only <;> omega
theorem allEq_self {α : Type} (g : α → α → Bool) (h : ∀ x, g x x = true) : ∀ l : List α, allEq g l l = true
  | [] => rfl
  | x :: r => by rw [allEq, h x, allEq_self g h r]; rfl
theorem tk_all (s : ByteArray) (hs : s.size ≤ 1500) (ts : List TokS) (h : scan 1000 0 (bl s) = .inl ts) : ∀ t ∈ ts, TkOk t := by
  intro t ht
  obtain ⟨f1, _⟩ := scan_facts _ 1000 0 (bl s) ts (Nat.le_refl _) h
  obtain ⟨a, b, _⟩ := f1 t ht
  exact ⟨a, fun q => by have := b q; rw [bl_length] at this; omega⟩
theorem parse_items (s : ByteArray) (hs : s.size ≤ 1500) (h0 : (parseF s).2.2 = 0) : ∃ l, stFi (parseF s).1 = l.foldl addT ([], []) ∧ (∀ x ∈ l, TpOk x) ∧ (tpsT l).length ≤ 1000 := by
  unfold parseF at h0 ⊢
  rw [allF_scan s (by omega)] at h0 ⊢
  cases hB : scan 1000 0 (bl s) with
  | inr x =>
    obtain ⟨q, e⟩ := x
    obtain ⟨h1, h2, h3⟩ := scan_err _ 1000 0 (bl s) q e (Nat.le_refl _) hB
    have he : e ≠ 0 := by omega
    rw [hB, show endL s [] (.inr (q, e)) = ([], (q : Int), e) from rfl, if_pos (show (([], (q : Int), e) : List TokS × Int × Int).2.2 ≠ 0 from he)] at h0
    exact absurd h0 he
  | inl ts =>
    rw [hB, show endL s [] (.inl ts) = (ts, (s.size : Int), 0) from rfl, if_neg (show ¬ ((ts, (s.size : Int), 0) : List TokS × Int × Int).2.2 ≠ 0 from fun h => h rfl)] at h0
    rw [show endL s [] (.inl ts) = (ts, (s.size : Int), 0) from rfl, if_neg (show ¬ ((ts, (s.size : Int), 0) : List TokS × Int × Int).2.2 ≠ 0 from fun h => h rfl)]
    dsimp only at h0 ⊢
    by_cases hb : (pAll (s.size : Int) ts).2.b = true
    · rw [if_pos hb] at h0
      exact absurd (show (4 : Int) = 0 from h0) (by decide)
    · rw [if_neg hb]
      have hb' : (pTop (ts.length + 1) ([], []) (s.size : Int) ⟨ts, false⟩).2.b = false := by simpa [pAll] using hb
      obtain ⟨l, g1, g2, g3⟩ := tps_inv ts.length ([], []) (s.size : Int) ts (ts.length + 1) (Nat.le_refl _) (Nat.lt_succ_self _) hb' (tk_all s hs ts hB)
      refine ⟨l, g1, g2, ?_⟩
      rw [← g3]
      exact (scan_len _ _ _ _ _ (Nat.le_refl _) hB).2
theorem allEq_st {α : Type} (g : α → α → Bool) (st : α → α) (h : ∀ x y, st x = st y → g x y = true) : ∀ a b : List α, a.map st = b.map st → allEq g a b = true
  | [], [], _ => rfl
  | [], _ :: _, e => by cases e
  | _ :: _, [], e => by cases e
  | x :: r, y :: s, e => by
    rw [List.map_cons, List.map_cons] at e
    injection e with e1 e2
    rw [allEq, h x y e1, allEq_st g st h r s e2]
    rfl
theorem same_st (f g : FileS) (h : stFi f = stFi g) : sameFile f.1 f.2 g.1 g.2 = true := by
  unfold stFi at h
  simp only [Prod.mk.injEq] at h
  have hF : ∀ x y, stF x = stF y → sameF x y = true := by
    intro x y e
    unfold stF at e
    simp only [S36.mk.injEq] at e
    obtain ⟨e0, e1, e2, e3, e4, e5, _⟩ := e
    unfold sameF
    rw [e0, e1, e2, e3, e4, e5]
    simp
  have hV : ∀ x y, stV x = stV y → sameV x y = true := by
    intro x y e
    unfold stV at e
    simp only [S92.mk.injEq] at e
    obtain ⟨e0, e1, _⟩ := e
    unfold sameV
    rw [e0, e1]
    simp
  have hM : ∀ x y, stM x = stM y → sameM x y = true := by
    intro x y e
    unfold stM at e
    simp only [S34.mk.injEq] at e
    obtain ⟨e0, e1, e2, e3, _⟩ := e
    unfold sameM
    rw [if_pos (by rw [e0]), allEq_st sameF stF hF _ _ e1, e2, e3, allEq_self strEq (fun x => by unfold strEq; simp), allEq_self intEq (fun x => by unfold intEq; simp)]
    rfl
  have hE : ∀ x y, stE x = stE y → sameE x y = true := by
    intro x y e
    unfold stE at e
    simp only [S68.mk.injEq] at e
    obtain ⟨e0, e1, _⟩ := e
    unfold sameE
    rw [if_pos (by rw [e0]), allEq_st sameV stV hV _ _ e1]
  unfold sameFile
  rw [allEq_st sameM stM hM _ _ h.1, allEq_st sameE stE hE _ _ h.2]
  rfl
theorem ms_many : ∀ l : List Tp, (msOf l).length ≤ (tpsT l).length
  | [] => Nat.le_refl _
  | .ms nm its :: r => by have := ms_many r; simp only [msOf, tpsT, tpT, List.length_append, List.length_cons]; omega
  | .en nm vs :: r => by have := ms_many r; simp only [msOf, tpsT, List.length_append]; omega
theorem parse_err (s : ByteArray) (h : (parseF s).2.2 ≠ 0) : (parseF s).1 = ([], []) := by
  unfold parseF at h ⊢
  by_cases h1 : (allF s).2.2 ≠ 0
  · rw [if_pos h1]
  · rw [if_neg h1] at h ⊢
    by_cases h2 : (pAll s.size (allF s).1).2.b = true
    · rw [if_pos h2]
    · rw [if_neg h2] at h
      exact absurd rfl h
end Go.Proofs.YtddpjjhekhompaaGreatDoor.P
namespace Go.Proofs.YtddpjjhekhompaaGreatDoor.P
open Go.RowKit Go.Proofs.YtddpjjhekhompaaGreatDoorW.PrintWords Go.Proofs.YtddpjjhekhompaaGreatDoorW.PrintLast Go.Proofs.YtddpjjhekhompaaGreatDoorW.PrintMore
set_option linter.unusedVariables false
set_option linter.unusedSimpArgs false
def shS (d : Nat) (s : PS) : PS := ⟨s.r.map (shT d), s.b⟩
def shF (d : Nat) (f : FieldS) : FieldS := ⟨f.f0, f.f1, f.f2, f.f3, f.f4, f.f5, f.f6 + d⟩
def shM (d : Nat) (m : MsgS) : MsgS := ⟨m.f0, m.f1.map (shF d), m.f2, m.f3, m.f4 + d⟩
def shV (d : Nat) (v : ValS) : ValS := ⟨v.f0, v.f1, v.f2 + d⟩
def shEn (d : Nat) (m : EnumS) : EnumS := ⟨m.f0, m.f1.map (shV d), m.f2 + d⟩
def shA (d : Nat) (m : MAcc) : MAcc := (m.1.map (shF d), m.2.1, m.2.2)
def shFi (d : Nat) (f : FileS) : FileS := (f.1.map (shM d), f.2.map (shEn d))
theorem shS_b (d : Nat) (s : PS) : (shS d s).b = s.b := rfl
theorem pAt_sh (d : Nat) (e : Int) (s : PS) : pAt (e + d) (shS d s) = pAt e s + d := by
  obtain ⟨r, b⟩ := s
  cases r <;> rfl
theorem pIs_sh (d j : Nat) (k : Int) (x : List UInt8) (s : PS) : pIs j k x (shS d s) = pIs j k x s := by
  obtain ⟨r, b⟩ := s
  unfold pIs shS
  cases b with
  | true => rfl
  | false =>
    rw [if_neg Bool.false_ne_true, if_neg Bool.false_ne_true, List.getElem?_map]
    cases r[j]? <;> rfl
theorem pTake_sh (d : Nat) (k : Int) (s : PS) : (pTake k (shS d s)).2 = shS d (pTake k s).2 ∧ (pTake k (shS d s)).1.f1 = (pTake k s).1.f1 ∧ (pTake k (shS d s)).1.f2 = (pTake k s).1.f2 := by
  obtain ⟨r, b⟩ := s
  cases b with
  | true => exact ⟨rfl, rfl, rfl⟩
  | false => cases r with
    | nil => exact ⟨rfl, rfl, rfl⟩
    | cons t r =>
      show (pTake k ⟨shT d t :: r.map (shT d), false⟩).2 = _ ∧ (pTake k ⟨shT d t :: r.map (shT d), false⟩).1.f1 = _ ∧ (pTake k ⟨shT d t :: r.map (shT d), false⟩).1.f2 = _
      rw [pTake_cons, pTake_cons]
      show (if t.f0 = k then (shT d t, (⟨r.map (shT d), false⟩ : PS)) else (zT, ⟨shT d t :: r.map (shT d), true⟩)).2 = _ ∧ (if t.f0 = k then (shT d t, (⟨r.map (shT d), false⟩ : PS)) else (zT, ⟨shT d t :: r.map (shT d), true⟩)).1.f1 = _ ∧ (if t.f0 = k then (shT d t, (⟨r.map (shT d), false⟩ : PS)) else (zT, ⟨shT d t :: r.map (shT d), true⟩)).1.f2 = _
      by_cases h : t.f0 = k
      · rw [if_pos h, if_pos h]; exact ⟨rfl, rfl, rfl⟩
      · rw [if_neg h, if_neg h]; exact ⟨rfl, rfl, rfl⟩
theorem pSign_sh (d : Nat) (x : List UInt8) (s : PS) : pSign x (shS d s) = ((pSign x s).1, shS d (pSign x s).2) := by
  unfold pSign
  rw [pIs_sh]
  split
  · show (true, (⟨(s.r.map (shT d)).tail, s.b⟩ : PS)) = _
    rw [← List.map_tail]
    rfl
  · rfl
theorem pMust_sh (d : Nat) (x : List UInt8) (s : PS) : pMust x (shS d s) = shS d (pMust x s) := by
  unfold pMust
  rw [pIs_sh]
  split
  · show (⟨(s.r.map (shT d)).tail, s.b⟩ : PS) = _
    rw [← List.map_tail]
    rfl
  · rfl
theorem pNamed_sh (d : Nat) (s : PS) : pNamed (shS d s) = ((pNamed s).1, shS d (pNamed s).2) := by
  unfold pNamed
  rw [(pTake_sh d 0 s).1, (pTake_sh d 0 s).2.1, pMust_sh, (pTake_sh d 1 _).1, (pTake_sh d 1 _).2.2, pMust_sh]
theorem pField_sh (d : Nat) (e one : Int) (s : PS) : pField (e + d) one (shS d s) = (shF d (pField e one s).1, shS d (pField e one s).2) := by
  unfold pField
  rw [(pTake_sh d 0 s).1, (pTake_sh d 0 s).2.1, pNamed_sh, pAt_sh]
  rfl
def Sh {α : Type} (d : Nat) (g : α → α) (P : α → Int → PS → α × PS) : Prop := ∀ a e s, P (g a) (e + d) (shS d s) = (g (P a e s).1, shS d (P a e s).2)
theorem pLoop_sh {α : Type} (d : Nat) (g : α → α) (x : List UInt8) (P : α → Int → PS → α × PS) (h : Sh d g P) : ∀ k a e s, pLoop x P k (g a) (e + d) (shS d s) = (g (pLoop x P k a e s).1, shS d (pLoop x P k a e s).2) := by
  intro k
  induction k with
  | zero => intro a e s; rfl
  | succ k ih =>
    intro a e s
    rw [pLoop, pLoop, pSign_sh, shS_b]
    by_cases hb : s.b = true
    · rw [if_pos hb, if_pos hb]
    · rw [if_neg hb, if_neg hb]
      by_cases hs : (pSign x s).1 = true
      · rw [if_pos hs, if_pos hs]
      · rw [if_neg hs, if_neg hs, h a e s]
        exact ih _ _ _
theorem mu_sh (d : Nat) (s : PS) : mu (shS d s) = mu s := by
  unfold mu shS
  simp only [List.length_map]
theorem pLoopW_sh {α : Type} (d : Nat) (g : α → α) (x : List UInt8) (P : α → Int → PS → α × PS) (h : Sh d g P) (a : α) (e : Int) (s : PS) : pLoopW x P (g a) (e + d) (shS d s) = (g (pLoopW x P a e s).1, shS d (pLoopW x P a e s).2) := by
  unfold pLoopW
  rw [mu_sh]
  exact pLoop_sh d g x P h _ a e s
theorem pOne_sh (d : Nat) (one : Int) : Sh d (List.map (shF d)) (pOne one) := by
  intro a e s
  unfold pOne
  rw [pField_sh, List.map_append]
  rfl
theorem pNums_sh (d : Nat) : ∀ k a s, pNums k a (shS d s) = ((pNums k a s).1, shS d (pNums k a s).2) := by
  intro k
  induction k with
  | zero => intro a s; rfl
  | succ k ih =>
    intro a s
    rw [pNums, pNums, (pTake_sh d 1 s).1, (pTake_sh d 1 s).2.2, pSign_sh, shS_b]
    by_cases hb : (pTake 1 s).2.b = true
    · rw [if_pos hb, if_pos hb]
    · rw [if_neg hb, if_neg hb]
      by_cases hs : (pSign [44] (pTake 1 s).2).1 = true
      · rw [if_pos hs, if_pos hs, ih]
      · rw [if_neg hs, if_neg hs]
theorem pMapT_sh (d : Nat) (s : PS) : pMapT (shS d s) = ((pMapT s).1, shS d (pMapT s).2) := by
  unfold pMapT
  rw [(pTake_sh d 0 s).1, pMust_sh, (pTake_sh d 0 _).1, (pTake_sh d 0 _).2.1, pMust_sh, (pTake_sh d 0 _).1, (pTake_sh d 0 _).2.1, pMust_sh]
theorem itemK_sh (d : Nat) (s : PS) : itemK (shS d s) = itemK s := by
  unfold itemK
  rw [pIs_sh, pIs_sh, pIs_sh, pIs_sh, pIs_sh]
theorem pRep_sh (d : Nat) : Sh d (shA d) pRep := by
  intro m e s
  unfold pRep
  rw [(pTake_sh d 0 s).1, pField_sh, pAt_sh]
  simp only [shA, List.map_append]
  rfl
theorem pPlain_sh (d : Nat) : Sh d (shA d) pPlain := by
  intro m e s
  unfold pPlain
  rw [pField_sh]
  simp only [shA, List.map_append]
  rfl
theorem pMap_sh (d : Nat) : Sh d (shA d) pMap := by
  intro m e s
  unfold pMap
  rw [pMapT_sh, pNamed_sh, pAt_sh]
  simp only [shA, List.map_append]
  rfl
theorem pOneof_sh (d : Nat) : Sh d (shA d) pOneof := by
  intro m e s
  unfold pOneof
  rw [(pTake_sh d 0 s).1, (pTake_sh d 0 _).1, (pTake_sh d 0 _).2.1, pMust_sh]
  have h := pLoopW_sh d (List.map (shF d)) [125] (pOne ((m.2.1.length : Int) + 1)) (pOne_sh d _) m.1 e (pMust [123] (pTake 0 (pTake 0 s).2).2)
  simp only [shA] at h ⊢
  rw [h]
theorem pRes_sh (d : Nat) : Sh d (shA d) pRes := by
  intro m e s
  unfold pRes
  rw [(pTake_sh d 0 s).1]
  have h := pNums_sh d ((pTake 0 s).2.r.length + 1) m.2.2 (pTake 0 s).2
  have hl : (shS d (pTake 0 s).2).r.length = (pTake 0 s).2.r.length := List.length_map _
  simp only [shA] at h ⊢
  rw [hl, h, pMust_sh]
theorem pItem_sh (d : Nat) : Sh d (shA d) pItem := by
  intro m e s
  unfold pItem
  rw [itemK_sh, pRep_sh d m e s, pOneof_sh d m e s, pRes_sh d m e s, pMap_sh d m e s, pPlain_sh d m e s]
  repeat' split
  all_goals rfl
theorem pMsg_sh (d : Nat) (e : Int) (s : PS) : pMsg (e + d) (shS d s) = (shM d (pMsg e s).1, shS d (pMsg e s).2) := by
  unfold pMsg
  rw [(pTake_sh d 0 s).1, (pTake_sh d 0 _).1, (pTake_sh d 0 _).2.1, pMust_sh, pAt_sh]
  have h := pLoopW_sh d (shA d) [125] pItem (pItem_sh d) ([], [], []) e (pMust [123] (pTake 0 (pTake 0 s).2).2)
  simp only [shA, List.map_nil] at h ⊢
  rw [h]
  rfl
theorem pVal_sh (d : Nat) : Sh d (List.map (shV d)) pVal := by
  intro a e s
  unfold pVal
  rw [pNamed_sh, pAt_sh, List.map_append]
  rfl
theorem pEnum_sh (d : Nat) (e : Int) (s : PS) : pEnum (e + d) (shS d s) = (shEn d (pEnum e s).1, shS d (pEnum e s).2) := by
  unfold pEnum
  rw [(pTake_sh d 0 s).1, (pTake_sh d 0 _).1, (pTake_sh d 0 _).2.1, pMust_sh, pAt_sh]
  have h := pLoopW_sh d (List.map (shV d)) [125] pVal (pVal_sh d) [] e (pMust [123] (pTake 0 (pTake 0 s).2).2)
  simp only [List.map_nil] at h ⊢
  rw [h]
  rfl
theorem pTop1_sh (d : Nat) : Sh d (shFi d) pTop1 := by
  intro f e s
  unfold pTop1
  rw [pIs_sh, pIs_sh, pMsg_sh, pEnum_sh]
  by_cases h1 : pIs 0 0 wMsg s = true
  · rw [if_pos h1, if_pos h1]
    simp only [shFi, List.map_append]
    rfl
  · rw [if_neg h1, if_neg h1]
    by_cases h2 : pIs 0 0 wEnum s = true
    · rw [if_pos h2, if_pos h2]
      simp only [shFi, List.map_append]
      rfl
    · rw [if_neg h2, if_neg h2]
      rfl
theorem pTop_sh (d : Nat) : ∀ k f e s, pTop k (shFi d f) (e + d) (shS d s) = (shFi d (pTop k f e s).1, shS d (pTop k f e s).2) := by
  intro k
  induction k with
  | zero => intro f e s; rfl
  | succ k ih =>
    intro f e s
    rw [pTop, pTop, shS_b, pTop1_sh d f e s]
    have hn : (shS d s).r = [] ↔ s.r = [] := List.map_eq_nil_iff
    by_cases hb : s.b = true
    · rw [if_pos hb, if_pos hb]
    · rw [if_neg hb, if_neg hb]
      by_cases hr : s.r = []
      · rw [if_pos hr, if_pos (hn.2 hr)]
      · rw [if_neg hr, if_neg (fun h => hr (hn.1 h))]
        exact ih _ _ _
theorem pAll_sh (d : Nat) (e : Int) (l : List TokS) : pAll (e + d) (l.map (shT d)) = (shFi d (pAll e l).1, shS d (pAll e l).2) := by
  unfold pAll
  rw [List.length_map]
  exact pTop_sh d _ ([], []) e ⟨l, false⟩
end Go.Proofs.YtddpjjhekhompaaGreatDoor.P
namespace Go.Proofs.YtddpjjhekhompaaGreatDoor.P
open Go.RowKit Go.Proofs.YtddpjjhekhompaaGreatDoorW.PrintWords Go.Proofs.YtddpjjhekhompaaGreatDoorW.PrintLast Go.Proofs.YtddpjjhekhompaaGreatDoorW.PrintMore
set_option linter.unusedVariables false
set_option linter.unusedSimpArgs false
theorem scan_cut_err : ∀ (d M m p : Nat) (a : List UInt8) (q : Nat), a.length ≤ d → m ≤ M → scan M p a = .inr (q, 4) → scan m p a = .inr (q, 4) ∨ ∃ q', scan m p a = .inr (q', 2) := by
  intro d
  induction d with
  | zero =>
    intro M m p a q hd _ h
    obtain rfl : a = [] := List.length_eq_zero_iff.mp (by omega)
    rw [scan_nil] at h
    cases h
  | succ d ih =>
    intro M m p a q hd hm h
    unfold scan at h ⊢
    have hk := skipN_le false a
    generalize skipN false a = k at h hk ⊢
    cases hl : a.drop k with
    | nil => rw [hl, lx_nil] at h; cases h
    | cons c r =>
      have hz := congrArg List.length hl
      rw [List.length_drop, List.length_cons] at hz
      rw [hl, lx_cons] at h
      rw [lx_cons]
      cases hx : lex1 (c :: r) with
      | none => rw [hx] at h; exact .inl h
      | some y =>
        obtain ⟨kd, t, v, n⟩ := y
        obtain ⟨n1, n2⟩ := lex1_le _ _ _ _ _ hx
        rw [List.length_cons] at n2
        rw [hx] at h
        simp only at h ⊢
        by_cases hM : M = 0
        · rw [if_pos hM] at h
          injection h with h
          simp only [Prod.mk.injEq] at h
          exact absurd h.2 (by decide)
        · rw [if_neg hM] at h
          by_cases h0 : m = 0
          · rw [if_pos h0]; exact .inr ⟨_, rfl⟩
          · rw [if_neg h0]
            have hv : scan (M - 1) (p + k + n) ((c :: r).drop n) = .inr (q, 4) := by
              cases hs : scan (M - 1) (p + k + n) ((c :: r).drop n) with
              | inl vs => rw [hs] at h; cases h
              | inr e => rw [hs] at h; exact h
            rcases ih (M - 1) (m - 1) _ _ q (by rw [List.length_drop, List.length_cons]; omega) (by omega) hv with h1 | ⟨q', h1⟩
            · exact .inl (by rw [h1]; rfl)
            · exact .inr ⟨q', by rw [h1]; rfl⟩
theorem top1_acc (f : FileS) (e : Int) (s : PS) : pTop1 f e s = ((f.1 ++ (pTop1 ([], []) e s).1.1, f.2 ++ (pTop1 ([], []) e s).1.2), (pTop1 ([], []) e s).2) := by
  unfold pTop1
  split
  · simp
  · split <;> simp
theorem top_acc : ∀ (k : Nat) (f : FileS) (e : Int) (s : PS), pTop k f e s = ((f.1 ++ (pTop k ([], []) e s).1.1, f.2 ++ (pTop k ([], []) e s).1.2), (pTop k ([], []) e s).2) := by
  intro k
  induction k with
  | zero => intro f e s; simp [pTop]
  | succ k ih =>
    intro f e s
    rw [pTop, pTop]
    by_cases h1 : s.b = true
    · rw [if_pos h1, if_pos h1]; simp
    · rw [if_neg h1, if_neg h1]
      by_cases h2 : s.r = []
      · rw [if_pos h2, if_pos h2]; simp
      · rw [if_neg h2, if_neg h2, top1_acc f, ih, ih (pTop1 ([], []) e s).1]
        simp
theorem st_shM (d : Nat) (m : MsgS) : stM (shM d m) = stM m := by
  unfold stM shM
  simp only [List.map_map]
  rfl
theorem st_shE (d : Nat) (m : EnumS) : stE (shEn d m) = stE m := by
  unfold stE shEn
  simp only [List.map_map]
  rfl
theorem join_plain (s t : ByteArray) (hs : s.size ≤ 1500) (ht : t.size ≤ 1500) (he : (parseF s).2.2 = 0) (hf : (parseF t).2.2 ≠ 2) (hg : (parseF ((s ++ (⟨#[10]⟩ : ByteArray)) ++ t)).2.2 ≠ 2) :
    ((parseF t).2.2 = 0 → (parseF ((s ++ (⟨#[10]⟩ : ByteArray)) ++ t)).2.2 = 0 ∧ stFi (parseF ((s ++ (⟨#[10]⟩ : ByteArray)) ++ t)).1 = stFi ((parseF s).1.1 ++ (parseF t).1.1, (parseF s).1.2 ++ (parseF t).1.2)) ∧
    ((parseF t).2.2 ≠ 0 → (parseF ((s ++ (⟨#[10]⟩ : ByteArray)) ++ t)).2.2 = (parseF t).2.2 ∧ (parseF ((s ++ (⟨#[10]⟩ : ByteArray)) ++ t)).2.1 = (parseF t).2.1 + s.size + 1) := by
  have hz := join_size s t
  have hb := join_bl s t
  generalize (s ++ (⟨#[10]⟩ : ByteArray)) ++ t = S at *
  have e0 : ∀ (x : ByteArray) (us : List TokS), endL x [] (.inl us) = (us, (x.size : Int), 0) := fun _ _ => rfl
  have e1 : ∀ (x : ByteArray) (q : Nat) (er : Int), endL x [] (.inr (q, er)) = ([], (q : Int), er) := fun _ _ _ => rfl
  have z0 : ∀ (x : ByteArray) (us : List TokS), ¬ ((us, (x.size : Int), 0) : List TokS × Int × Int).2.2 ≠ 0 := fun _ _ h => h rfl
  have z1 : ∀ (q : Nat) (er : Int), er ≠ 0 → (([], (q : Int), er) : List TokS × Int × Int).2.2 ≠ 0 := fun _ _ h => h
  unfold parseF at he hf hg ⊢
  rw [allF_scan s (by omega)] at he ⊢
  rw [allF_scan t (by omega)] at hf ⊢
  rw [allF_scan S (by omega), hb] at hg ⊢
  cases hA : scan 1000 0 (bl s) with
  | inr x =>
    obtain ⟨q, er⟩ := x
    obtain ⟨h1, _, _⟩ := scan_err _ 1000 0 (bl s) q er (Nat.le_refl _) hA
    rw [hA, e1, if_pos (z1 q er (by omega))] at he
    exact absurd he (by show er ≠ 0; omega)
  | inl ts =>
    rw [hA, e0, if_neg (z0 _ _)] at he
    rw [e0, if_neg (z0 _ _)]
    dsimp only at he ⊢
    have hgood : ¬ (pAll (s.size : Int) ts).2.b = true := fun h => by rw [if_pos h] at he; exact absurd (show (4 : Int) = 0 from he) (by decide)
    rw [if_neg hgood]
    dsimp only
    have hlf := scan_lf (bl t) _ 1000 0 (bl s) ts (Nat.le_refl _) hA
    rw [bl_length, Nat.zero_add] at hlf
    have hsh := scan_shift (s.size + 1) (1000 - ts.length) 0 (bl t)
    rw [Nat.zero_add] at hsh
    rw [hsh] at hlf
    rw [hlf] at hg ⊢
    have htl := (scan_len _ _ _ _ _ (Nat.le_refl _) hA).2
    cases hB : scan 1000 0 (bl t) with
    | inr x =>
      obtain ⟨q, er⟩ := x
      obtain ⟨h1, _, _⟩ := scan_err _ 1000 0 (bl t) q er (Nat.le_refl _) hB
      rw [hB, e1, if_pos (z1 q er (by omega))] at hf
      have her : er = 4 := by
        have : er ≠ 2 := hf
        omega
      subst her
      rw [e1, if_pos (z1 q 4 (by decide))]
      rcases scan_cut_err _ 1000 (1000 - ts.length) 0 (bl t) q (Nat.le_refl _) (by omega) hB with h2 | ⟨q', h2⟩
      · rw [h2]
        have e2 : preE ts (shE (s.size + 1) (.inr (q, 4))) = .inr (q + (s.size + 1), 4) := rfl
        rw [e2, e1, if_pos (z1 _ 4 (by decide))]
        exact ⟨fun h => absurd (show (4 : Int) = 0 from h) (by decide), fun _ => ⟨rfl, by dsimp only; omega⟩⟩
      · rw [h2] at hg
        have e2 : preE ts (shE (s.size + 1) (.inr (q', 2))) = .inr (q' + (s.size + 1), 2) := rfl
        rw [e2, e1, if_pos (z1 _ 2 (by decide))] at hg
        exact absurd rfl hg
    | inl us =>
      rw [e0, if_neg (z0 _ _)]
      dsimp only
      obtain ⟨c1, c2⟩ := scan_cut _ 1000 (1000 - ts.length) 0 (bl t) us (Nat.le_refl _) hB
      by_cases hle : us.length ≤ 1000 - ts.length
      · rw [c1 hle]
        have e2 : preE ts (shE (s.size + 1) (.inl us)) = .inl (ts ++ us.map (shT (s.size + 1))) := rfl
        rw [e2, e0, if_neg (z0 _ _)]
        dsimp only
        have hp : pAll (S.size : Int) (ts ++ us.map (shT (s.size + 1))) = (((pAll (s.size : Int) ts).1.1 ++ (shFi (s.size + 1) (pAll (t.size : Int) us).1).1, (pAll (s.size : Int) ts).1.2 ++ (shFi (s.size + 1) (pAll (t.size : Int) us).1).2), shS (s.size + 1) (pAll (t.size : Int) us).2) := by
          have hg' : (pTop (ts.length + 1) ([], []) (s.size : Int) ⟨ts, false⟩).2.b = false := by simpa [pAll] using hgood
          have h2 := top_app ts.length ([], []) (s.size : Int) ts (Nat.le_refl _) hg' (S.size : Int) (us.map (shT (s.size + 1))) ((ts ++ us.map (shT (s.size + 1))).length + 1) (Nat.lt_succ_self _)
          have h3 := top_acc ((us.map (shT (s.size + 1))).length + 1) (pTop (ts.length + 1) ([], []) (s.size : Int) ⟨ts, false⟩).1 (S.size : Int) ⟨us.map (shT (s.size + 1)), false⟩
          have h4 := pAll_sh (s.size + 1) (t.size : Int) us
          have e3 : (S.size : Int) = (t.size : Int) + ((s.size + 1 : Nat) : Int) := by omega
          rw [← e3] at h4
          unfold pAll at h4 ⊢
          rw [h2, h3, h4]
        rw [hp]
        dsimp only
        have hbb : (shS (s.size + 1) (pAll (t.size : Int) us).2).b = (pAll (t.size : Int) us).2.b := rfl
        rw [hbb]
        by_cases hbad : (pAll (t.size : Int) us).2.b = true
        · rw [if_pos hbad, if_pos hbad]
          refine ⟨fun h => absurd (show (4 : Int) = 0 from h) (by decide), fun _ => ⟨rfl, ?_⟩⟩
          dsimp only
          rw [show (S.size : Int) = (t.size : Int) + ((s.size + 1 : Nat) : Int) from by omega, pAt_sh]
          omega
        · rw [if_neg hbad, if_neg hbad]
          refine ⟨fun _ => ⟨rfl, ?_⟩, fun h => absurd rfl h⟩
          unfold stFi shFi
          dsimp only
          simp only [List.map_append, List.map_map]
          congr 2
          · exact List.map_congr_left fun x _ => st_shM _ x
          · exact List.map_congr_left fun x _ => st_shE _ x
      · obtain ⟨q, h2⟩ := c2 (by omega)
        rw [h2] at hg
        have e2 : preE ts (shE (s.size + 1) (.inr (q, 2))) = .inr (q + (s.size + 1), 2) := rfl
        rw [e2, e1, if_pos (z1 _ 2 (by decide))] at hg
        exact absurd rfl hg
theorem ens_many : ∀ l : List Tp, (ensOf l).length ≤ (tpsT l).length
  | [] => Nat.le_refl _
  | .ms nm its :: r => by have := ens_many r; simp only [ensOf, tpsT, List.length_append]; omega
  | .en nm vs :: r => by have := ens_many r; simp only [ensOf, tpsT, tpT, List.length_append, List.length_cons]; omega
theorem parse_few (s : ByteArray) (hs : s.size ≤ 1500) : (parseF s).1.1.length ≤ 1000 ∧ (parseF s).1.2.length ≤ 1000 := by
  by_cases h0 : (parseF s).2.2 = 0
  · obtain ⟨l, h1, h2, h3⟩ := parse_items s hs h0
    rw [fold_tps, List.nil_append, List.nil_append] at h1
    unfold stFi at h1
    simp only [Prod.mk.injEq] at h1
    have l1 := congrArg List.length h1.1
    have l2 := congrArg List.length h1.2
    rw [List.length_map] at l1 l2
    have := ms_many l
    have := ens_many l
    omega
  · rw [parse_err s h0]
    exact ⟨Nat.zero_le _, Nat.zero_le _⟩
theorem pj_str (x y : ByteArray) : (x ++ y).size = x.size + y.size := ByteArray.size_append
theorem pj_one (s t : ByteArray) (hs : s.size ≤ 1500) (ht : t.size ≤ 1500) (k : Nat) : trufflelaw07_ProtoJoin.j0 (k + 2) s t true false = some true := by
  have e1 := pj_str s (⟨#[10]⟩ : ByteArray)
  have e2 : (⟨#[10]⟩ : ByteArray).size = 1 := rfl
  obtain ⟨n1, n2⟩ := parse_few s hs
  obtain ⟨n3, n4⟩ := parse_few t ht
  obtain ⟨a1, a2⟩ := parse_at t (by omega)
  simp only [trufflelaw07_ProtoJoin.j0]
  rw [if_neg Bool.false_ne_true]
  simp only [proto_Parse.f, Option.bind_some]
  rw [if_pos (by omega), if_pos (by omega)]
  have hT : ∀ x0 x10 x11 x13 x14 l1 l2 l3 l4 l5 l6, trufflelaw07_ProtoJoin.j1 (k + 1) x0 x10 x11 x13 x14 true l1 l2 l3 l4 l5 l6 = some true := fun x0 x10 x11 x13 x14 l1 l2 l3 l4 l5 l6 => by simp only [trufflelaw07_ProtoJoin.j1, if_true]
  by_cases he : (parseF s).2.2 = 0
  · rw [if_pos he]
    by_cases hf : (parseF t).2.2 = 2
    · rw [if_pos hf]; exact hT _ _ _ _ _ _ _ _ _ _ _
    · rw [if_neg hf]
      by_cases hg : (parseF ((s ++ (⟨#[10]⟩ : ByteArray)) ++ t)).2.2 = 2
      · rw [hg]; exact hT _ _ _ _ _ _ _ _ _ _ _
      · obtain ⟨p1, p2⟩ := join_plain s t hs ht he hf hg
        have hb : ((parseF ((s ++ (⟨#[10]⟩ : ByteArray)) ++ t)).2.2 == 2) = false := by simpa using hg
        rw [hb]
        simp only [trufflelaw07_ProtoJoin.j1]
        rw [if_neg Bool.false_ne_true]
        simp only [List.nil_append, List.length_nil, Option.bind_some, List.length_append]
        rw [if_pos (by omega), if_pos (by omega), if_pos (by omega), if_pos (by omega)]
        by_cases hf0 : (parseF t).2.2 = 0
        · obtain ⟨g1, g2⟩ := p1 hf0
          rw [if_pos hf0, if_pos g1]
          simp only [proto_Same.f, Option.bind_some]
          rw [same_st (parseF ((s ++ (⟨#[10]⟩ : ByteArray)) ++ t)).1 ((parseF s).1.1 ++ (parseF t).1.1, (parseF s).1.2 ++ (parseF t).1.2) g2]
        · obtain ⟨g1, g2⟩ := p2 hf0
          have w1 : wrap64 (wrap64 ((parseF t).2.1 + (s.size : Int)) + 1) = (parseF t).2.1 + (s.size : Int) + 1 := by unfold wrap64; omega
          rw [if_neg hf0, if_pos g1, g2, w1]
          simp
  · rw [if_neg he]; exact hT _ _ _ _ _ _ _ _ _ _ _
theorem ProtoJoin : trufflelaw07_ProtoJoin.Pure := by
  intro s t _ _
  refine ⟨2, ?_⟩
  unfold trufflelaw07_ProtoJoin.f
  rw [awake07_true, Option.bind_some, if_pos rfl]
  by_cases h1 : (s.size : Int) > 1500
  · rw [if_pos h1]
    simp only [trufflelaw07_ProtoJoin.j0, if_true]
  · by_cases h2 : (t.size : Int) > 1500
    · rw [if_neg h1, decide_eq_true h2]
      simp only [trufflelaw07_ProtoJoin.j0, if_true]
    · rw [if_neg h1, decide_eq_false h2]
      exact pj_one s t (by omega) (by omega) 0
end Go.Proofs.YtddpjjhekhompaaGreatDoor.P
namespace Go.Proofs.YtddpjjhekhompaaGreatDoor.laidKit
open Go.RowKit
abbrev lst : List (String × DataW Unit) := [("math/bits.deBruijn32tab", Rows.laid_math_bits_deBruijn32tab), ("math/bits.deBruijn64tab", Rows.laid_math_bits_deBruijn64tab), ("internal/strconv.uint64pow10", Rows.laid_internal_strconv_uint64pow10), ("strconv.ErrRange", Rows.laid_strconv_ErrRange), ("strconv.ErrSyntax", Rows.laid_strconv_ErrSyntax)]
theorem gPow : Tryz.prog.globalNamed "internal/strconv.uint64pow10" = some 0 := by kernel_rfl
theorem gPowT : (Tryz.prog.globals[0]?).map (·.type) = some 249 := by kernel_rfl
theorem cPow : Tryz.prog.cellsOf 249 = 20 := by kernel_rfl
theorem cU64 : Tryz.prog.cellsOf 218 = 1 := by kernel_rfl
theorem gRng : Tryz.prog.globalNamed "strconv.ErrRange" = some 2 := by kernel_rfl
theorem gRngT : (Tryz.prog.globals[2]?).map (·.type) = some 162 := by kernel_rfl
theorem gSyn : Tryz.prog.globalNamed "strconv.ErrSyntax" = some 1 := by kernel_rfl
theorem gSynT : (Tryz.prog.globals[1]?).map (·.type) = some 162 := by kernel_rfl
theorem cErr : Tryz.prog.cellsOf 267 = 1 := by kernel_rfl
theorem cStr : Tryz.prog.cellsOf 9 = 1 := by kernel_rfl
theorem star : "*" ++ "errors.errorString" = "*errors.errorString" := by decide
theorem rowErr (u : TypeId) (h : Tryz.prog.typeName? 3 u = some "*errors.errorString") : u = 265 :=
  typeName_ptr_named (nm := "errors.errorString") (by rw [star]; kernel_rfl) (by kernel_rfl) (by decide) u (by rw [star]; exact h)
theorem pow_is : (Rows.laid_internal_strconv_uint64pow10 : DataW Unit) = Lib.tabData .u64 Lib.pow10Tab := by rfl
theorem ginv {W : World} (h : laidMetH Tryz.prog lst W) : P.GInv W := by
  rw [Go.MakeChecks.laidMetH_plain _ _ _ (by kernel_rfl)] at h
  have h3 := h.tail.tail
  have hp : Lib.TabIs Tryz.prog W "internal/strconv.uint64pow10" .u64 Lib.pow10Tab :=
    Lib.tabIs_of_head gPow gPowT Tryz.underlying249 Tryz.underlying218 cU64 cPow (by rw [← pow_is]; exact h3)
  obtain ⟨a1, s1, hv1, _, _, _⟩ := laid_sentinel h3.tail gRng gRngT Tryz.underlying162 rowErr Tryz.underlying265 Tryz.underlying267 rfl rfl Tryz.underlying9 cErr cStr
  obtain ⟨a2, s2, hv2, _, _, _⟩ := laid_sentinel h3.tail.tail gSyn gSynT Tryz.underlying162 rowErr Tryz.underlying265 Tryz.underlying267 rfl rfl Tryz.underlying9 cErr cStr
  refine ⟨⟨_, _, by have h0 := World.var?_cell gSyn hv2 0; simpa using h0⟩, ⟨_, _, by have h0 := World.var?_cell gRng hv1 0; simpa using h0⟩, hp, ?_⟩
  have c0 := hp.cell gPow 0 (by decide)
  exact World.block_lt_of_cell? W _ c0
abbrev synS : ByteArray := { data := #[105, 110, 118, 97, 108, 105, 100, 32, 115, 121, 110, 116, 97, 120] }
abbrev rngS : ByteArray := { data := #[118, 97, 108, 117, 101, 32, 111, 117, 116, 32, 111, 102, 32, 114, 97, 110, 103, 101] }
def cellsOfData : DataW Unit → Array Value
  | .agg l => (l.map fun
      | .lit (.int k n) => Value.int k n
      | _ => .nilIface).toArray
  | _ => #[]
noncomputable def low : Nat := (World.holding Tryz.prog default ⟨#[], #[], []⟩).heap.size
noncomputable def laidWorld (os : Os) : World :=
  let w0 := World.holding Tryz.prog os ⟨#[.cells #[.string synS] 267, .cells #[.string rngS] 267], #[], []⟩
  { w0 with heap := ((((w0.heap.modify 0 fun
      | .cells _ t frozen => .cells (cellsOfData Rows.laid_internal_strconv_uint64pow10) t frozen
      | o => o).modify 1 fun
      | .cells _ t frozen => .cells #[.iface 265 (.pointer (some ⟨low, 0, none⟩))] t frozen
      | o => o).modify 2 fun
      | .cells _ t frozen => .cells #[.iface 265 (.pointer (some ⟨low + 1, 0, none⟩))] t frozen
      | o => o).modify 4 fun
      | .cells _ t frozen => .cells (cellsOfData Rows.laid_math_bits_deBruijn32tab) t frozen
      | o => o).modify 5 fun
      | .cells _ t frozen => .cells (cellsOfData Rows.laid_math_bits_deBruijn64tab) t frozen
      | o => o }
theorem laid_met (os : Os) (args : Array Value) : laidMet Tryz.prog lst ((laidWorld os).forCall (fun _ _ => 0) ⟨#[], args, []⟩).memory :=
  laidMet_of_run' 8 (by kernel_rfl) (by kernel_rfl)
end Go.Proofs.YtddpjjhekhompaaGreatDoor.laidKit
