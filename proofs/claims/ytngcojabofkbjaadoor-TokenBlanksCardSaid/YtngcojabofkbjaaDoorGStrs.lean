/- strings.IndexByte (the shelf's contract), and strings.Cut at a separator of one byte. -/
import Derived.Test.YtngcojabofkbjaaDoorGShelf
import Derived.Test.YtngcojabofkbjaaDoorPx0
namespace Go.Proofs.YtngcojabofkbjaaDoor.P
open Go.RowKit Go.Proofs.YtngcojabofkbjaaDoorW.PrintWords Go.Proofs.YtngcojabofkbjaaDoorW.PrintLast Go.Proofs.YtngcojabofkbjaaDoorW.PrintMore
attribute [local go_sem] max2_int min2_int max_two min_two max_three min_three max_four min_four   -- for this text's walks alone
set_option linter.unusedVariables false
set_option linter.unusedSimpArgs false

def strings_IndexByte.f (a0 : ByteArray) (a1 : Int) : Option (Int) := some (Lib.indexByte a0.data.toList a1.toNat.toUInt8)
theorem strings_IndexByte.calls (a0 : ByteArray) (a1 : Int) (r : Int) (w : World) (h : strings_IndexByte.f a0 a1 = some r) :
    Calls Tryd.prog 59 #[.string a0, .int .u8 a1] w fun e w' => e = .returned (.int .i64 r) ∧ Drawn0 w w' := by
  obtain rfl := Option.some.inj h
  refine (Tryd.strings_IndexByte a0 a1 w).mono ?_
  rintro e w' ⟨rfl, rfl⟩
  exact ⟨rfl, Drawn0.refl _⟩

def cutAt (a0 : ByteArray) (c : UInt8) : ByteArray × ByteArray × Bool :=
  if Lib.indexByte a0.data.toList c < 0 then (a0, ⟨#[]⟩, false)
  else (a0.extract 0 (Lib.indexByte a0.data.toList c).toNat, a0.extract ((Lib.indexByte a0.data.toList c).toNat + 1) a0.size, true)
def strings_Cut.f (a0 : ByteArray) (a1 : ByteArray) : Option (ByteArray × ByteArray × Bool) :=
  if a0.size ≤ 140737488351232 then match a1.data.toList with
  | [c] => some (cutAt a0 c)
  | _ => none
  else none
theorem indexByte_range (l : List UInt8) (c : UInt8) : -1 ≤ Lib.indexByte l c ∧ Lib.indexByte l c < l.length := by
  induction l with
  | nil => simp [Lib.indexByte]
  | cons b l ih =>
    unfold Lib.indexByte
    split
    · simp
    · split
      · simp; omega
      · rename_i h; simp at h; simp only [List.length_cons]; omega
set_option maxHeartbeats 1000000 in
theorem stringslite_Cut_one (a0 : ByteArray) (c : UInt8) (w : World) (hs : a0.size ≤ 140737488351232) :
    Calls Tryd.prog 78 #[.string a0, .string ⟨#[c]⟩] w fun e w' => e = .returned (.tuple #[.string (cutAt a0 c).1, .string (cutAt a0 c).2.1, .bool (cutAt a0 c).2.2]) ∧ Drawn0 w w' := by
  have hr := indexByte_range a0.data.toList c
  have hl : a0.data.toList.length = a0.size := by simp
  rw [hl] at hr
  by_cases hneg : Lib.indexByte a0.data.toList c < 0
  · have E : cutAt a0 c = (a0, ⟨#[]⟩, false) := by unfold cutAt; rw [if_pos hneg]
    rw [E]
    have H := Aside0.mk (fun W => Tryd.stringslite_Index_one a0 c W)
    generalize Lib.indexByte a0.data.toList c = i at *
    clear E
    have hd : decide (0 ≤ i) = false := decide_eq_false (by omega)
    go_enter Tryd.func78, Tryd.ntmps78
    go_wp2_with (go_at_call 93; refine (H.out _).mono ?_; rintro e w' ⟨rfl, rfl⟩)
    go_ret3
    exact ⟨rfl, Drawn0.refl _⟩
  · have E : cutAt a0 c = (a0.extract 0 (Lib.indexByte a0.data.toList c).toNat, a0.extract ((Lib.indexByte a0.data.toList c).toNat + 1) a0.size, true) := by unfold cutAt; rw [if_neg hneg]
    rw [E]
    have H := Aside0.mk (fun W => Tryd.stringslite_Index_one a0 c W)
    generalize Lib.indexByte a0.data.toList c = i at *
    clear E
    obtain ⟨n, rfl⟩ := Int.eq_ofNat_of_zero_le (show 0 ≤ i by omega)
    have hd : decide (0 ≤ (n : Int)) = true := decide_eq_true (by omega)
    have g1 : (n : Int) ≤ (a0.size : Int) := by omega
    have g2 : (n : Int) + 1 ≤ (a0.size : Int) := by omega
    have g3 : n + 1 ≤ a0.size := by omega
    have g4 : n ≤ a0.size := by omega
    go_enter Tryd.func78, Tryd.ntmps78
    go_wp2_with (go_at_call 93; refine (H.out _).mono ?_; rintro e w' ⟨rfl, rfl⟩)
    go_quiet (fail)
    go_wp2
    go_ret3
    exact ⟨by simp, by exact Drawn0.step (Drawn0.refl _) _⟩
theorem strings_Cut.calls (a0 : ByteArray) (a1 : ByteArray) (r1 : ByteArray) (r2 : ByteArray) (r3 : Bool) (w : World) (h : strings_Cut.f a0 a1 = some (r1, r2, r3)) :
    Calls Tryd.prog 62 #[.string a0, .string a1] w fun e w' => e = .returned (.tuple #[.string r1, .string r2, .bool r3]) ∧ Drawn0 w w' := by
  unfold strings_Cut.f at h
  split at h
  · rename_i hs
    split at h
    · rename_i c hc
      have e : a1 = ⟨#[c]⟩ := by cases a1 with | mk d => cases d; simp_all
      subst e
      have hh := Option.some.inj h
      have h1 : (cutAt a0 c).1 = r1 := by rw [hh]
      have h2 : (cutAt a0 c).2.1 = r2 := by rw [hh]
      have h3 : (cutAt a0 c).2.2 = r3 := by rw [hh]
      clear h hh hc
      have H := fun W => stringslite_Cut_one a0 c W hs
      rw [h1, h2, h3] at H
      clear h1 h2 h3
      go_enter Tryd.func62, Tryd.ntmps62
      go_wp2_with (go_at_call 78; refine (H _).mono ?_; rintro e w' ⟨rfl, hd⟩)
      go_ret3
      exact ⟨rfl, hd⟩
    · cases h
  · cases h

end Go.Proofs.YtngcojabofkbjaaDoor.P
