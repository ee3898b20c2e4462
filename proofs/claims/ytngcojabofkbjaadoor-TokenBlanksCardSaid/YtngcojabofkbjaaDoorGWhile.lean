/- token's reader: while, name. -/
import Derived.Test.YtngcojabofkbjaaDoorPx0
import Derived.Test.YtngcojabofkbjaaDoorPx2
import Derived.Test.YtngcojabofkbjaaDoorGStrs
namespace Go.Proofs.YtngcojabofkbjaaDoor.P
open Go.RowKit Go.Proofs.YtngcojabofkbjaaDoorW.PrintWords Go.Proofs.YtngcojabofkbjaaDoorW.PrintLast Go.Proofs.YtngcojabofkbjaaDoorW.PrintMore
attribute [local go_sem] max2_int min2_int max_two min_two max_three min_three max_four min_four   -- for this text's walks alone
set_option linter.unusedVariables false
set_option linter.unusedSimpArgs false

def stopAt (p : Int → Bool) (s : ByteArray) : Nat → Nat → Nat
  | 0, i => i
  | n + 1, i => if i < s.size then (if p (bt s i) = true then stopAt p s n (i + 1) else i) else i
set_option maxHeartbeats 2000000 in
set_option maxRecDepth 100000 in
theorem while_calls (F : Nat) (p : Int → Bool) (g : Nat) (s : ByteArray) (at0 : Nat) (w0 w : World) (hI : IsS55 w0 w g s at0) (hB : Below w0.heap.size w0 w) (hs : s.size ≤ 140737488351232) (hat : at0 < s.size)
   (hF : Aside0 (∀ (c : Int) (W : World), Calls Tryd.prog F #[.int .u8 c] W fun e w' => e = .returned (.bool (p c)) ∧ Drawn0 W w'))
   (hcf : ∀ (c : Int) (W : World), Sem.run Tryd.prog (callFunc F #[.int .u8 c]) W = .ok (.enter F #[.int .u8 c]) W) :
    Calls Tryd.prog 54 #[.pointer (some ⟨g, 0, none⟩), .func (.func F) #[] #[]] w fun e w' => e = .returned (.string (s.extract at0 (stopAt p s s.size (at0 + 1)))) ∧ IsS55 w0 w' g s (stopAt p s s.size (at0 + 1)) ∧ Below w0.heap.size w0 w' ∧ KeepBut w w' g none := by
  have HR : Aside0 (∃ R, stopAt p s s.size (at0 + 1) = R) := ⟨_, rfl⟩
  obtain ⟨R, HR0⟩ := HR.out
  rw [HR0]
  clear HR
  have HR := Aside0.mk HR0
  clear HR0
  have c0 := cellS55_0 hI.1
  have c1 := cellS55_1 hI.1
  have f1 : w.frozen? ⟨g, 1, none⟩ = false := blk_frozen hI.1 1
  go_enter Tryd.func54, Tryd.ntmps54
  go_wp2
  go_loopg [39] s.size (fun n _ W => ∃ i : Nat, Aside0 (stopAt p s n i = R) ∧ Aside0 (IsS55 w0 W g s i) ∧ Aside0 (Below w0.heap.size w0 W) ∧ Aside0 (KeepBut w W g none) ∧ Aside0 (i ≤ s.size ∧ at0 ≤ i ∧ s.size ≤ i + n))
  case atStart => exact ⟨at0 + 1, HR, ⟨IsS55.set_1 hI _⟩, ⟨below_set hB hI.2⟩, ⟨(KeepBut.refl w g none).set_ 1 _⟩, ⟨by omega⟩⟩
  case round =>
    clear HR
    obtain ⟨i, HS, HI, HB, HK, HN⟩ := hrel
    have HNo := HN.out
    clear c0 c1 f1
    have c0 := cellS55_0 HI.out.1
    have c1 := cellS55_1 HI.out.1
    have f1 : wr.frozen? ⟨g, 1, none⟩ = false := blk_frozen HI.out.1 1
    by_cases hlt : i < s.size
    · have d1 : decide ((i : Int) < (s.size : Int)) = true := decide_eq_true (by omega)
      have d2 : decide (i < s.size) = true := decide_eq_true hlt
      cases gk with
      | zero => omega
      | succ k1 =>
        have HS1 : Aside0 ((if p (bt s i) = true then stopAt p s k1 (i + 1) else i) = R) := ⟨by rw [← HS.out, stopAt, if_pos hlt]⟩
        clear HS
        have hbt : bt s i = (s[i].toNat : Int) := by simp [bt, hlt]
        rw [hbt] at HS1
        clear hbt
        have HQ : Aside0 (∀ n, Calls Tryd.prog F #[.int .u8 (s[i].toNat : Int)] (wr.drewN n) fun e w'' => e = .returned (.bool (p (s[i].toNat : Int))) ∧ ∃ m, w'' = wr.drewN m) :=
          ⟨fun n => Calls.quiet_of ((hF.out _ _).mono (by rintro e w' ⟨rfl, hd⟩; exact ⟨rfl, hd.out⟩))⟩
        by_cases hp : p (s[i].toNat : Int) = true
        · have HS2 : Aside0 (stopAt p s k1 (i + 1) = R) := ⟨by have := HS1.out; rw [if_pos hp] at this; exact this⟩
          clear HS1
          go_wp2
          refine wp_region_quiet_lit (by kernel_rfl) (by kernel_rfl) ?_
          repeat (first | go_big_quiet_step (fail) | quiet_step (exact HQ.out _))
          refine wpQuiet_nil ?_
          intro _ hw'
          obtain ⟨nq, hw''⟩ := hw'
          subst hw''
          go_wp2
          go_roundg k1
          case measure => omega
          case rel => exact ⟨i + 1, HS2, ⟨by rw [show ((i + 1 : Nat) : Int) = (i : Int) + 1 from by omega]; exact (by repeat (first | (with_reducible first | exact HI.out | apply IsS55.alloc | apply IsS55.drewN | apply IsS55.drew | apply IsS55.set_0 | apply IsS55.set_1) | exact HI.out))⟩, ⟨(by repeat (first | (with_reducible first | exact HB.out | apply below_alloc | apply pw_below_drewN | apply below_drew1 | refine below_set ?_ (IsS55.ge HI.out)) | exact HB.out))⟩, ⟨(by repeat (first | (with_reducible first | exact HK.out | apply KeepBut.set_ | apply keep_drewN | apply keep_drew | apply keep_alloc) | exact HK.out))⟩, ⟨by omega⟩⟩
        · have hp2 : p (s[i].toNat : Int) = false := by simpa using hp
          have HE : i = R := by have := HS1.out; rw [if_neg hp] at this; exact this
          clear HS1 hp
          subst HE
          go_wp2
          refine wp_region_quiet_lit (by kernel_rfl) (by kernel_rfl) ?_
          repeat (first | go_big_quiet_step (fail) | quiet_step (exact HQ.out _))
          refine wpQuiet_nil ?_
          intro _ hw'
          obtain ⟨nq, hw''⟩ := hw'
          subst hw''
          go_wp2
          go_quiet (fail)
          go_wp2
          go_ret
          exact ⟨by first | rfl | (simp; done), (by repeat (first | (with_reducible first | exact HI.out | apply IsS55.alloc | apply IsS55.drewN | apply IsS55.drew | apply IsS55.set_0 | apply IsS55.set_1) | exact HI.out)), (by repeat (first | (with_reducible first | exact HB.out | apply below_alloc | apply pw_below_drewN | apply below_drew1 | refine below_set ?_ (IsS55.ge HI.out)) | exact HB.out)), (by repeat (first | (with_reducible first | exact HK.out | apply KeepBut.set_ | apply keep_drewN | apply keep_drew | apply keep_alloc) | exact HK.out))⟩
    · have d1 : decide ((i : Int) < (s.size : Int)) = false := decide_eq_false (by omega)
      have d2 : decide (i < s.size) = false := decide_eq_false hlt
      have HE : i = R := by rw [← HS.out]; cases gk <;> simp [stopAt, hlt]
      clear HS
      subst HE
      go_wp2
      go_quiet (fail)
      go_wp2
      go_quiet (fail)
      go_wp2
      go_ret
      exact ⟨by first | rfl | (simp; done), (by repeat (first | (with_reducible first | exact HI.out | apply IsS55.alloc | apply IsS55.drewN | apply IsS55.drew | apply IsS55.set_0 | apply IsS55.set_1) | exact HI.out)), (by repeat (first | (with_reducible first | exact HB.out | apply below_alloc | apply pw_below_drewN | apply below_drew1 | refine below_set ?_ (IsS55.ge HI.out)) | exact HB.out)), (by repeat (first | (with_reducible first | exact HK.out | apply KeepBut.set_ | apply keep_drewN | apply keep_drew | apply keep_alloc) | exact HK.out))⟩

theorem bool_eq_of_iff {a b : Bool} (h : a = true ↔ b = true) : a = b := by cases a <;> cases b <;> simp_all

theorem run_enter {P : Program} {f : FuncId} {fn : Func} (hf : P.funcs[f]? = some fn) (hname : (fn.name == "runtime.NumGoroutine") = false) (hb : fn.body.isSome = true) (args : Array Value) (w : World) :
    (callFunc f args).run P w = .ok (.enter f args) w := by
  have h1 : fn.name ≠ "runtime.NumGoroutine" := by simpa using hname
  obtain ⟨c, hc⟩ := Option.isSome_iff_exists.mp hb
  simp [callFunc, hf, h1, hc]
/-- What a byte begins: a letter 0, a digit or a minus 1, a quote 2, a sign 3, else 4. -/
def signsL : List UInt8 := [123, 125, 40, 41, 91, 93, 60, 62, 61, 59, 44, 46]
def ofK (c : Int) : Int := if (97 ≤ c ∧ c ≤ 122) ∨ (65 ≤ c ∧ c ≤ 90) ∨ c = 95 then 0 else if (48 ≤ c ∧ c ≤ 57) ∨ c = 45 then 1 else if c = 34 then 2 else if 0 ≤ Lib.indexByte signsL c.toNat.toUInt8 then 3 else 4
def ofR (c : Int) : Int := if c = 34 then 2 else if 0 ≤ Lib.indexByte signsL c.toNat.toUInt8 then 3 else 4
theorem of_j3 (k : Nat) (c : Int) (b : Bool) : token_of.j3 (k + 1) c b = some (if b = true then 1 else ofR c) := by
  have hS : strings_IndexByte.f (⟨#[123, 125, 40, 41, 91, 93, 60, 62, 61, 59, 44, 46]⟩ : ByteArray) c = some (Lib.indexByte signsL c.toNat.toUInt8) := rfl
  unfold ofR
  simp only [token_of.j3, hS, Option.bind_some]
  generalize Lib.indexByte signsL c.toNat.toUInt8 = i
  by_cases h1 : b = true
  · rw [if_pos h1, if_pos h1]
  · rw [if_neg h1, if_neg h1]
    by_cases h2 : c = 34
    · rw [if_pos h2, if_pos h2]
    · rw [if_neg h2, if_neg h2]
      by_cases h3 : 0 ≤ i
      · rw [if_pos h3, if_pos h3]
      · rw [if_neg h3, if_neg h3]
theorem of_j2 (k : Nat) (c : Int) (b : Bool) : token_of.j2 (k + 2) c b = some (if b = true ∨ c = 45 then 1 else ofR c) := by
  simp only [token_of.j2, of_j3]
  cases b <;> simp
theorem of_j1 (k : Nat) (c : Int) (b : Bool) : token_of.j1 (k + 3) c b = some (if b = true then 0 else if (48 ≤ c ∧ c ≤ 57) ∨ c = 45 then 1 else ofR c) := by
  simp only [token_of.j1, of_j2]
  cases b
  · by_cases h : 48 ≤ c
    · simp [h]
    · simp [h]
  · simp
theorem of_j0 (k : Nat) (c : Int) (b : Bool) : token_of.j0 (k + 4) c b = some (if b = true ∨ (65 ≤ c ∧ c ≤ 90) ∨ c = 95 then 0 else if (48 ≤ c ∧ c ≤ 57) ∨ c = 45 then 1 else ofR c) := by
  simp only [token_of.j0, of_j1]
  cases b
  · by_cases h : 65 ≤ c
    · by_cases h2 : c ≤ 90
      · simp [h, h2]
      · simp [h, h2]
    · simp [h]
  · simp
theorem token_of_eq (k : Nat) (hk : 5 ≤ k) (c : Int) : token_of.f k c = some (ofK c) := by
  obtain ⟨k, rfl⟩ : ∃ m, k = m + 4 := ⟨k - 4, by omega⟩
  have hR : ∀ x y : Int, (if c = 34 then (2 : Int) else if 0 ≤ Lib.indexByte signsL c.toNat.toUInt8 then 3 else 4) = ofR c := fun _ _ => rfl
  unfold token_of.f ofK
  rw [hR 0 0, of_j0, of_j0]
  by_cases h : 97 ≤ c
  · rw [if_pos h]; simp [h]
  · rw [if_neg h]; simp [h]
def nameB (c : Int) : Bool := ofK c == 0 || (ofK c == 1 && c != 45)
def numB (c : Int) : Bool := ofK c == 1 && c != 45
theorem name_1_eq (c : Int) : token_reader_name_1.f 5 c = some (nameB c) := by
  unfold token_reader_name_1.f nameB
  rw [token_of_eq 5 (by omega)]
  simp only [Option.bind_some]
  repeat' split
  all_goals simp_all
theorem num_1_eq (c : Int) : token_reader_num_1.f 5 c = some (numB c) := by
  unfold token_reader_num_1.f numB
  rw [token_of_eq 5 (by omega)]
  simp only [Option.bind_some]
  repeat' split
  all_goals simp_all
/-- while, at the two tests that it is called with. -/
def token_reader_while.f (s0_0 : ByteArray) (s0_1 : Int) (a1 : Nat) : Option (ByteArray × ByteArray × Int) :=
  if s0_0.size ≤ 140737488351232 ∧ 0 ≤ s0_1 ∧ s0_1 < s0_0.size then
    if a1 = 55 then some (s0_0.extract s0_1.toNat (stopAt nameB s0_0 s0_0.size (s0_1.toNat + 1)), s0_0, (stopAt nameB s0_0 s0_0.size (s0_1.toNat + 1) : Nat))
    else if a1 = 56 then some (s0_0.extract s0_1.toNat (stopAt numB s0_0 s0_0.size (s0_1.toNat + 1)), s0_0, (stopAt numB s0_0 s0_0.size (s0_1.toNat + 1) : Nat))
    else none
  else none
theorem token_reader_while.calls (g : Nat) (s0_0 : ByteArray) (s0_1 : Int) (a1 : Nat) (r1 : ByteArray) (r2 : ByteArray) (r3 : Int) (w0 w : World) (hI : IsS55 w0 w g s0_0 s0_1) (hB : Below w0.heap.size w0 w) (h : token_reader_while.f s0_0 s0_1 a1 = some (r1, r2, r3)) :
    Calls Tryd.prog 54 #[.pointer (some ⟨g, 0, none⟩), .func (.func a1) #[] #[]] w fun e w' => e = .returned (.string r1) ∧ IsS55 w0 w' g r2 r3 ∧ Below w0.heap.size w0 w' ∧ KeepBut w w' g none := by
  unfold token_reader_while.f at h
  split at h
  · rename_i hc
    obtain ⟨n, rfl⟩ := Int.eq_ofNat_of_zero_le hc.2.1
    rw [Int.toNat_natCast] at h
    have hn : n < s0_0.size := by have := hc.2.2; omega
    split at h
    · rename_i ha
      obtain rfl := ha
      simp only [Option.some.injEq, Prod.mk.injEq] at h
      obtain ⟨rfl, rfl, rfl⟩ := h
      exact while_calls _ nameB g s0_0 n w0 w hI hB hc.1 hn ⟨fun c W => token_reader_name_1.calls 5 c _ W (name_1_eq c)⟩ (fun c W => run_enter Tryd.func55 (by kernel_rfl) (by kernel_rfl) _ _)
    · split at h
      · rename_i ha
        obtain rfl := ha
        simp only [Option.some.injEq, Prod.mk.injEq] at h
        obtain ⟨rfl, rfl, rfl⟩ := h
        exact while_calls _ numB g s0_0 n w0 w hI hB hc.1 hn ⟨fun c W => token_reader_num_1.calls 5 c _ W (num_1_eq c)⟩ (fun c W => run_enter Tryd.func56 (by kernel_rfl) (by kernel_rfl) _ _)
      · cases h
  · cases h

end Go.Proofs.YtngcojabofkbjaaDoor.P
