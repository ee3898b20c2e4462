/- Part 6 of what the law ProtoJoin leans on: contracts of the functions that it reaches, and plain lemmas; printed walks and words (by the kit's print, through wip/mp.py) and the session's own texts, one behind the other, what is not used left out (wip/prune.py). -/
import Derived.Test.YtddpjjhekhompaaGreatDoorMProtoJoin1
import Derived.Test.YtddpjjhekhompaaGreatDoorMProtoJoin2
import Derived.Test.YtddpjjhekhompaaGreatDoorMProtoJoin3
import Derived.Test.YtddpjjhekhompaaGreatDoorMProtoJoin4
import Derived.Test.YtddpjjhekhompaaGreatDoorMProtoJoin5
namespace Go.Proofs.YtddpjjhekhompaaGreatDoor.P
open Go.RowKit Go.Proofs.YtddpjjhekhompaaGreatDoorW.PrintWords Go.Proofs.YtddpjjhekhompaaGreatDoorW.PrintLast Go.Proofs.YtddpjjhekhompaaGreatDoorW.PrintMore
set_option linter.unusedVariables false
set_option linter.unusedSimpArgs false
theorem sq_box1 {W : World} {g : Nat} {c0 : Value} {t : TypeId} (h : W.heap[g]? = some (.cells #[c0] t (0,0))) : W.cell? ⟨g,0,none⟩ = some c0 ∧ W.frozen? ⟨g,0,none⟩ = false :=
 ⟨(blk_cell h 0).trans rfl,blk_frozen h 0⟩
theorem sq_box2 {W : World} {g : Nat} {c0 c1 : Value} {t : TypeId} (h : W.heap[g]? = some (.cells #[c0,c1] t (0,0))) : W.cell? ⟨g,0,none⟩ = some c0 ∧ W.cell? ⟨g,1,none⟩ = some c1 ∧ W.frozen? ⟨g,0,none⟩ = false ∧ W.frozen? ⟨g,1,none⟩ = false :=
 ⟨(blk_cell h 0).trans rfl,(blk_cell h 1).trans rfl,blk_frozen h 0,blk_frozen h 1⟩
theorem sq_box3 {W : World} {g : Nat} {c0 c1 c2 : Value} {t : TypeId} (h : W.heap[g]? = some (.cells #[c0,c1,c2] t (0,0))) : W.cell? ⟨g,0,none⟩ = some c0 ∧ W.cell? ⟨g,1,none⟩ = some c1 ∧ W.cell? ⟨g,2,none⟩ = some c2 ∧ W.frozen? ⟨g,0,none⟩ = false ∧ W.frozen? ⟨g,1,none⟩ = false ∧ W.frozen? ⟨g,2,none⟩ = false :=
 ⟨(blk_cell h 0).trans rfl,(blk_cell h 1).trans rfl,(blk_cell h 2).trans rfl,blk_frozen h 0,blk_frozen h 1,blk_frozen h 2⟩
theorem sq_box4 {W : World} {g : Nat} {c0 c1 c2 c3 : Value} {t : TypeId} (h : W.heap[g]? = some (.cells #[c0,c1,c2,c3] t (0,0))) : W.cell? ⟨g,0,none⟩ = some c0 ∧ W.cell? ⟨g,1,none⟩ = some c1 ∧ W.cell? ⟨g,2,none⟩ = some c2 ∧ W.cell? ⟨g,3,none⟩ = some c3 ∧ W.frozen? ⟨g,0,none⟩ = false ∧ W.frozen? ⟨g,1,none⟩ = false ∧ W.frozen? ⟨g,2,none⟩ = false ∧ W.frozen? ⟨g,3,none⟩ = false :=
 ⟨(blk_cell h 0).trans rfl,(blk_cell h 1).trans rfl,(blk_cell h 2).trans rfl,(blk_cell h 3).trans rfl,blk_frozen h 0,blk_frozen h 1,blk_frozen h 2,blk_frozen h 3⟩
theorem sq_box5 {W : World} {g : Nat} {c0 c1 c2 c3 c4 : Value} {t : TypeId} (h : W.heap[g]? = some (.cells #[c0,c1,c2,c3,c4] t (0,0))) : W.cell? ⟨g,0,none⟩ = some c0 ∧ W.cell? ⟨g,1,none⟩ = some c1 ∧ W.cell? ⟨g,2,none⟩ = some c2 ∧ W.cell? ⟨g,3,none⟩ = some c3 ∧ W.cell? ⟨g,4,none⟩ = some c4 ∧ W.frozen? ⟨g,0,none⟩ = false ∧ W.frozen? ⟨g,1,none⟩ = false ∧ W.frozen? ⟨g,2,none⟩ = false ∧ W.frozen? ⟨g,3,none⟩ = false ∧ W.frozen? ⟨g,4,none⟩ = false :=
 ⟨(blk_cell h 0).trans rfl,(blk_cell h 1).trans rfl,(blk_cell h 2).trans rfl,(blk_cell h 3).trans rfl,(blk_cell h 4).trans rfl,blk_frozen h 0,blk_frozen h 1,blk_frozen h 2,blk_frozen h 3,blk_frozen h 4⟩
theorem sq_box6 {W : World} {g : Nat} {c0 c1 c2 c3 c4 c5 : Value} {t : TypeId} (h : W.heap[g]? = some (.cells #[c0,c1,c2,c3,c4,c5] t (0,0))) : W.cell? ⟨g,0,none⟩ = some c0 ∧ W.cell? ⟨g,1,none⟩ = some c1 ∧ W.cell? ⟨g,2,none⟩ = some c2 ∧ W.cell? ⟨g,3,none⟩ = some c3 ∧ W.cell? ⟨g,4,none⟩ = some c4 ∧ W.cell? ⟨g,5,none⟩ = some c5 ∧ W.frozen? ⟨g,0,none⟩ = false ∧ W.frozen? ⟨g,1,none⟩ = false ∧ W.frozen? ⟨g,2,none⟩ = false ∧ W.frozen? ⟨g,3,none⟩ = false ∧ W.frozen? ⟨g,4,none⟩ = false ∧ W.frozen? ⟨g,5,none⟩ = false :=
 ⟨(blk_cell h 0).trans rfl,(blk_cell h 1).trans rfl,(blk_cell h 2).trans rfl,(blk_cell h 3).trans rfl,(blk_cell h 4).trans rfl,(blk_cell h 5).trans rfl,blk_frozen h 0,blk_frozen h 1,blk_frozen h 2,blk_frozen h 3,blk_frozen h 4,blk_frozen h 5⟩
theorem sq_box7 {W : World} {g : Nat} {c0 c1 c2 c3 c4 c5 c6 : Value} {t : TypeId} (h : W.heap[g]? = some (.cells #[c0,c1,c2,c3,c4,c5,c6] t (0,0))) : W.cell? ⟨g,0,none⟩ = some c0 ∧ W.cell? ⟨g,1,none⟩ = some c1 ∧ W.cell? ⟨g,2,none⟩ = some c2 ∧ W.cell? ⟨g,3,none⟩ = some c3 ∧ W.cell? ⟨g,4,none⟩ = some c4 ∧ W.cell? ⟨g,5,none⟩ = some c5 ∧ W.cell? ⟨g,6,none⟩ = some c6 ∧ W.frozen? ⟨g,0,none⟩ = false ∧ W.frozen? ⟨g,1,none⟩ = false ∧ W.frozen? ⟨g,2,none⟩ = false ∧ W.frozen? ⟨g,3,none⟩ = false ∧ W.frozen? ⟨g,4,none⟩ = false ∧ W.frozen? ⟨g,5,none⟩ = false ∧ W.frozen? ⟨g,6,none⟩ = false :=
 ⟨(blk_cell h 0).trans rfl,(blk_cell h 1).trans rfl,(blk_cell h 2).trans rfl,(blk_cell h 3).trans rfl,(blk_cell h 4).trans rfl,(blk_cell h 5).trans rfl,(blk_cell h 6).trans rfl,blk_frozen h 0,blk_frozen h 1,blk_frozen h 2,blk_frozen h 3,blk_frozen h 4,blk_frozen h 5,blk_frozen h 6⟩
theorem sq_box8 {W : World} {g : Nat} {c0 c1 c2 c3 c4 c5 c6 c7 : Value} {t : TypeId} (h : W.heap[g]? = some (.cells #[c0,c1,c2,c3,c4,c5,c6,c7] t (0,0))) : W.cell? ⟨g,0,none⟩ = some c0 ∧ W.cell? ⟨g,1,none⟩ = some c1 ∧ W.cell? ⟨g,2,none⟩ = some c2 ∧ W.cell? ⟨g,3,none⟩ = some c3 ∧ W.cell? ⟨g,4,none⟩ = some c4 ∧ W.cell? ⟨g,5,none⟩ = some c5 ∧ W.cell? ⟨g,6,none⟩ = some c6 ∧ W.cell? ⟨g,7,none⟩ = some c7 ∧ W.frozen? ⟨g,0,none⟩ = false ∧ W.frozen? ⟨g,1,none⟩ = false ∧ W.frozen? ⟨g,2,none⟩ = false ∧ W.frozen? ⟨g,3,none⟩ = false ∧ W.frozen? ⟨g,4,none⟩ = false ∧ W.frozen? ⟨g,5,none⟩ = false ∧ W.frozen? ⟨g,6,none⟩ = false ∧ W.frozen? ⟨g,7,none⟩ = false :=
 ⟨(blk_cell h 0).trans rfl,(blk_cell h 1).trans rfl,(blk_cell h 2).trans rfl,(blk_cell h 3).trans rfl,(blk_cell h 4).trans rfl,(blk_cell h 5).trans rfl,(blk_cell h 6).trans rfl,(blk_cell h 7).trans rfl,blk_frozen h 0,blk_frozen h 1,blk_frozen h 2,blk_frozen h 3,blk_frozen h 4,blk_frozen h 5,blk_frozen h 6,blk_frozen h 7⟩
def sqB (n m : Nat) : Array Bool := ((List.range n).map fun i => m.testBit i).toArray
abbrev Y1 := @pw_below_drewN
abbrev Y2 := @below_drew1
abbrev Y3 := @below_alloc
abbrev Y4 := @below_set
abbrev Y5 := @Kd.R_alloc
abbrev Y6 := @Kd.R_drewN
abbrev Y7 := @Kd.R_drew
abbrev Y11 := @blk_drewN
abbrev Y12 := @blk_alloc
abbrev Y13 := @blk_drew
abbrev Y20 := @Kd.N_drew
abbrev nB (k : Nat) (v : Value) : Prop := some k ≠ v.ownBlock
abbrev Y0 := @Aside0.mk
abbrev Y14 := @List.setIfInBounds_toArray
abbrev Y15 := @List.set_cons_zero
abbrev Y16 := @List.set_cons_succ
abbrev Y17 := @Option.bind_eq_some_iff
mutual
def trufflelaw07_ProtoJoin.j0 : Nat → ByteArray → ByteArray → Bool → Bool → Option (Bool)
 | 0,_,_,_,_ => none
 | k + 1,x0,x1,x5,x28 => if x28 = true then (some x5) else ((proto_Parse.f x0).bind fun bt208 => ((proto_Parse.f x1).bind fun bt217 => (if x0.size + 1 ≤ 9223372036854775807 then (if (x0 ++ (⟨#[10]⟩ : ByteArray)).size + x1.size ≤ 9223372036854775807 then ((proto_Parse.f ((x0 ++ (⟨#[10]⟩ : ByteArray)) ++ x1)).bind fun bt226 => (if bt208.2.2.2 = 0 then (if bt217.2.2.2 = 2 then (trufflelaw07_ProtoJoin.j1 k x0 bt217.2.2.1 bt217.2.2.2 bt226.2.2.1 bt226.2.2.2 true bt208.1 bt208.2.1 bt217.1 bt217.2.1 bt226.1 bt226.2.1) else (trufflelaw07_ProtoJoin.j1 k x0 bt217.2.2.1 bt217.2.2.2 bt226.2.2.1 bt226.2.2.2 (bt226.2.2.2 == 2) bt208.1 bt208.2.1 bt217.1 bt217.2.1 bt226.1 bt226.2.1)) else (trufflelaw07_ProtoJoin.j1 k x0 bt217.2.2.1 bt217.2.2.2 bt226.2.2.1 bt226.2.2.2 true bt208.1 bt208.2.1 bt217.1 bt217.2.1 bt226.1 bt226.2.1))) else (none)) else (none))))
def trufflelaw07_ProtoJoin.j1 : Nat → ByteArray → Int → Int → Int → Int → Bool → List (S34) → List (S68) → List (S34) → List (S68) → List (S34) → List (S68) → Option (Bool)
 | 0,_,_,_,_,_,_,_,_,_,_,_,_ => none
 | k + 1,x0,x10,x11,x13,x14,x60,x217000,x217001,x226000,x226001,x235000,x235001 => if x60 = true then (some true) else (if ([] : List (S34)).length + x217000.length < 1466015503701 then ((some (([] : List (S34)) ++ x217000 : List (S34))).bind fun y235 => (if y235.length + x226000.length < 1466015503701 then (if ([] : List (S68)).length + x217001.length < 2932031007402 then ((some (([] : List (S68)) ++ x217001 : List (S68))).bind fun y241 => (if y241.length + x226001.length < 2932031007402 then (if x11 = 0 then (if x14 = 0 then ((proto_Same.f x235000 x235001 (y235 ++ x226000) (y241 ++ x226001)).bind fun t248 => (some t248)) else (some false)) else (if x14 = x11 then (some (x13 == (wrap64 ((wrap64 (x10 + (x0.size : Int))) + 1)))) else (some false))) else (none))) else (none)) else (none))) else (none))
end
def trufflelaw07_ProtoJoin.f (k : Nat) (a0 : ByteArray) (a1 : ByteArray) : Option (Bool) := (trufflelaw07_awake.f).bind fun t207 => (if t207 = true then (if (a0.size : Int) > 1500 then (trufflelaw07_ProtoJoin.j0 k a0 a1 t207 true) else (trufflelaw07_ProtoJoin.j0 k a0 a1 t207 (decide ((a1.size : Int) > 1500)))) else (trufflelaw07_ProtoJoin.j0 k a0 a1 t207 true))
def trufflelaw07_ProtoJoin.T9 : Bool × List (List Nat × List Nat) := (true,[([],[]),([0],[0]),([1],[1]),([],[]),([3],[3]),([2,4,2],[2,4]),([],[]),([6],[6]),([7,5],[7]),([],[]),([9],[9]),([8,10,8],[8,10]),([5,11],[5,11]),([],[]),([13,12,11,0,1,2,3,4,5,6,7,8,9,10,11,12,13],[12,13])])
def trufflelaw07_ProtoJoin.B9 : List Nat := [0,1,3,0,8,31,0,64,255,0,512,2047,4095,0,16383]
theorem trufflelaw07_ProtoJoin.tab9 : rtab .any (opsOf Tryz.f5 9) = trufflelaw07_ProtoJoin.T9 := by kernel_rfl
theorem trufflelaw07_ProtoJoin.bits9 : waitsOk trufflelaw07_ProtoJoin.T9.2 trufflelaw07_ProtoJoin.B9 = true := by kernel_rfl
set_option maxHeartbeats 8000000 in
set_option maxRecDepth 100000 in
theorem trufflelaw07_ProtoJoin.calls (k : Nat) (a0 : ByteArray) (a1 : ByteArray) (w : World) (hG : GInv w) (h : trufflelaw07_ProtoJoin.f k a0 a1 = some true) :
  Calls Tryz.prog 5 #[.string a0,.string a1] w fun e w' => e = .returned (.bool true) ∧ Below w.heap.size w w' := by
 have hu26 := Tryz.underlying26
 have HB := Y0 (Below.refl w.heap.size w)
 have H : ((trufflelaw07_awake.f).bind fun t207 => (if t207 = true then (if (a0.size : Int) > 1500 then (trufflelaw07_ProtoJoin.j0 k a0 a1 t207 true) else (trufflelaw07_ProtoJoin.j0 k a0 a1 t207 (decide ((a1.size : Int) > 1500)))) else (trufflelaw07_ProtoJoin.j0 k a0 a1 t207 true))) = some true := h
 clear h
 replace H := Y17.mp H
 obtain ⟨t207,A30,H⟩ := H
 try dsimp only at H
 have A3 := Y0 A30
 clear A30
 have HC4 := Y0 H
 clear H
 go_enter Tryz.func5,Tryz.ntmps5
 go_upto_region 2 with (first | ((with_reducible refine gate_callee (f := 12) rfl ?_);refine goesL_ (some 16) rfl rfl Tryz.func12 (by kernel_rfl) rfl #[] rfl (by (try simp only [List.map_toArray,List.map_cons,List.map_nil]);first | done | rfl | (simp only [List.length_drop,List.length_take];rfl)) ?_;(with_reducible refine (trufflelaw07_awake.calls  t207 _ ?side1 A3.out).mono ?_);(case side1 => exact hG.below (by repeat (with_reducible first | exact HB.out | apply Y3 | apply Y1 | apply Y2)));rintro e w5 ⟨rfl,hb⟩;refine ⟨_,rfl,?_⟩;have n0_ := Y0 (below_step (by repeat (with_reducible first | exact HB.out | apply Y3 | apply Y1 | apply Y2)) hb);clear HB;have HB := n0_;clear n0_;(try clear hb);(try clear hb2);(try clear hk);(try clear hi)))
 (try simp only [Act.put,Y14,Y15,Y16])
 go_cut [28] (fun v28 wc => ∃ (kq : Nat) (x28_3 : Bool),v28 = .bool x28_3 ∧ Aside0 (trufflelaw07_ProtoJoin.j0 kq a0 a1 t207 x28_3 = some true) ∧ Aside0 (kq ≤ k) ∧ Aside0 (Below w.heap.size w wc))
 case first =>
  have H := HC4.out
  clear HC4
  by_cases c6 : t207 = true
  rotate_left
  ·replace c6 := Bool.eq_false_iff.mpr c6
   subst c6
   rw [if_neg (show ¬ (false = true) by decide)] at H
   have H' := Y0 H
   clear H
   go_wp2
   go_meet
   case rel => exact ⟨_,(true),(by first | rfl | (simp;done) | (simp [*];done)),H',⟨by first | omega | exact Nat.le_refl _⟩,⟨by repeat (with_reducible first | exact HB.out | apply Y3 | apply Y1 | apply Y2)⟩⟩
  subst c6
  rw [if_pos rfl] at H
  by_cases c7 : (a0.size : Int) > 1500
  ·rw [if_pos c7] at H
   have c7b0 : decide (1500 < (a0.size : Int)) = true := decide_eq_true c7
   have c7b1 : decide (1500 < a0.size) = true := decide_eq_true (by omega)
   clear c7
   (first | rw [c7b0] | (simp only [];rw [c7b0]) | skip)
   have H' := Y0 H
   clear H
   go_wp2
   go_meet
   case rel => exact ⟨_,(true),(by first | rfl | (simp;done) | (simp [*];done)),H',⟨by first | omega | exact Nat.le_refl _⟩,⟨by repeat (with_reducible first | exact HB.out | apply Y3 | apply Y1 | apply Y2)⟩⟩
  rw [if_neg c7] at H
  have c7b0 : decide (1500 < (a0.size : Int)) = false := decide_eq_false c7
  have c7b1 : decide (1500 < a0.size) = false := decide_eq_false (by omega)
  clear c7
  (first | rw [c7b0] | (simp only [];rw [c7b0]) | skip)
  have H' := Y0 H
  clear H
  go_wp2
  go_meet
  case rel => exact ⟨_,(decide ((a1.size : Int) > 1500)),(by first | rfl | (simp;done) | (simp [*];done)),H',⟨by first | omega | exact Nat.le_refl _⟩,⟨by repeat (with_reducible first | exact HB.out | apply Y3 | apply Y1 | apply Y2)⟩⟩
 case rest =>
  clear HC4
  obtain ⟨kq,x28_3,rfl,HA,HJ3,HB⟩ := hcut
  cases kq with
  | zero => exact absurd HA.out (by simp [trufflelaw07_ProtoJoin.j0])
  | succ kj3 =>
   have H := HA.out
   clear HA
   simp only [trufflelaw07_ProtoJoin.j0] at H
   by_cases c8 : x28_3 = true
   ·subst c8
    rw [if_pos rfl] at H
    have hv_ := Option.some.inj H
    go_wp2
    go_ret
    exact ⟨by first | rfl | (rw [hv_];done) | (simp [hv_];done) | (simp [← hv_];done) | (simp [] <;> rfl) | (simp [*] <;> rfl),by repeat (with_reducible first | exact HB.out | apply Y3 | apply Y1 | apply Y2)⟩
   replace c8 := Bool.eq_false_iff.mpr c8
   subst c8
   rw [if_neg (show ¬ (false = true) by decide)] at H
   replace H := Y17.mp H
   obtain ⟨⟨t208,t211,t214,t215⟩,A90,H⟩ := H
   try dsimp only at H
   have A9 := Y0 A90
   clear A90
   replace H := Y17.mp H
   obtain ⟨⟨t217,t220,t223,t224⟩,A100,H⟩ := H
   try dsimp only at H
   have A10 := Y0 A100
   clear A100
   by_cases c11 : a0.size + 1 ≤ 9223372036854775807
   rotate_left
   ·rw [if_neg c11] at H
    exact absurd H (by simp)
   rw [if_pos c11] at H
   have c11b0 := eq_true c11
   have c11b1 : decide (a0.size + 1 ≤ 9223372036854775807) = true := decide_eq_true c11
   try have c11b2 : (9223372036854775807 < a0.size + 1) = False := eq_false (Nat.not_lt.2 c11)
   by_cases c12 : (a0 ++ (⟨#[10]⟩ : ByteArray)).size + a1.size ≤ 9223372036854775807
   rotate_left
   ·rw [if_neg c12] at H
    exact absurd H (by simp)
   rw [if_pos c12] at H
   have c12b0 := eq_true c12
   have c12b1 : decide ((a0 ++ (⟨#[10]⟩ : ByteArray)).size + a1.size ≤ 9223372036854775807) = true := decide_eq_true c12
   try have c12b2 : (9223372036854775807 < (a0 ++ (⟨#[10]⟩ : ByteArray)).size + a1.size) = False := eq_false (Nat.not_lt.2 c12)
   try have c12b3 : (9223372036854775807 < a0.size + 1 + a1.size) = False := eq_false (by have e_ : ∀ a b : ByteArray,(a ++ b).size = a.size + b.size := fun a b => ByteArray.size_append;have h_ := c12;simp only [e_] at h_;exact Nat.not_lt.2 h_)
   replace H := Y17.mp H
   obtain ⟨⟨t226,t229,t232,t233⟩,A130,H⟩ := H
   try dsimp only at H
   have A13 := Y0 A130
   clear A130
   have HC14 := Y0 H
   clear H
   go_upto_region 7 with (first | ((with_reducible refine gate_callee (f := 13) rfl ?_);refine goesL_ (some 32) rfl rfl Tryz.func13 (by kernel_rfl) rfl #[.string a0] rfl (by (try simp only [List.map_toArray,List.map_cons,List.map_nil]);first | done | rfl | (simp only [List.length_drop,List.length_take];rfl)) ?_;(with_reducible refine (proto_Parse.calls a0 t208 t211 t214 t215 _ ?side1 A9.out).mono ?_);(case side1 => exact hG.below (by repeat (with_reducible first | exact HB.out | apply Y3 | apply Y1 | apply Y2)));rintro e w15 ⟨v209,v212,rfl,ho0,ho1,hb⟩;refine ⟨_,rfl,?_⟩;have n0_ := Y0 (Kd.N_lower (Kd.N_mono (ok' := fun k_ => nB k_ (v212)) (Kd.R_N (Kd.R_bound (Kd.R_apart' ho0 (Kd.R_typed ho1) (by decide)))) (fun k_ hk_ => hk_.1.2)) (below_size (by repeat (with_reducible first | exact HB.out | apply Y3 | apply Y1 | apply Y2))));have n1_ := Y0 (Kd.N_lower (Kd.N_mono (ok' := fun k_ => nB k_ (v209)) (Kd.R_N (Kd.R_bound (Kd.R_apart' ho1 (Kd.R_typed ho0) (by decide)))) (fun k_ hk_ => hk_.1.2)) (below_size (by repeat (with_reducible first | exact HB.out | apply Y3 | apply Y1 | apply Y2))));have n2_ := Y0 (below_step (by repeat (with_reducible first | exact HB.out | apply Y3 | apply Y1 | apply Y2)) hb);clear HB;have HO210 := n0_;have HO213 := n1_;have HB := n2_;clear n0_ n1_ n2_;(try clear hb);(try clear hb2);(try clear hk);(try clear hi);(try clear ho0);(try clear ho1)) | ((with_reducible refine gate_dst (N := 6) rfl ?_);(try (refine gate_guard (by rfl) ?_;dsimp only));refine box_event ?hg (N := 6) ?hd (cs := #[.slice none 0 0,.slice none 0 0]) (t := 26) ?hr ?_;(case hd => rfl);(case hg => rfl);(case hr => first | (go_simp;done) | (go_simp;rfl));intro gb216 hg w16 hbox hb;have n0_ := Y0 (Kd.N_below (Kd.N_elderB (by (with_reducible repeat (first | apply Y20));exact HO210.out) gb216 (Nat.le_of_eq hg.symm)) hb);have n1_ := Y0 (Kd.N_below (Kd.N_elderB (by (with_reducible repeat (first | apply Y20));exact HO213.out) gb216 (Nat.le_of_eq hg.symm)) hb);have n2_ := Y0 (below_step (by repeat (with_reducible first | exact HB.out | apply Y3 | apply Y1 | apply Y2)) hb);have n3_ := Y0 (hbox);have n4_ := Y0 ((by rw [hg];exact (below_size (by repeat (with_reducible first | exact HB.out | apply Y3 | apply Y1 | apply Y2))) : w.heap.size ≤ gb216));have n5_ := Y0 ((by rw [hg];exact (below_size (by repeat (with_reducible first | exact HB.out | apply Y3 | apply Y1 | apply Y2))) : w.heap.size ≤ gb216));clear HO210;clear HO213;clear HB;have HO210 := n0_;have HO213 := n1_;have HB := n2_;have BK216 := n3_;have GW216 := n4_;have GE216 := n5_;clear n0_ n1_ n2_ n3_ n4_ n5_;clear hb hbox hg;obtain ⟨Ao17,co17,eo17⟩ := Kd.N_slice HO210.out;subst eo17;have ⟨hcz18_0,hcz18_1,hfz18_0,hfz18_1⟩ := sq_box2 BK216.out;obtain ⟨Ao19,co19,eo19⟩ := Kd.N_slice HO213.out;subst eo19) | ((with_reducible refine gate_callee (f := 13) rfl ?_);refine goesL_ (some 38) rfl rfl Tryz.func13 (by kernel_rfl) rfl #[.string a1] rfl (by (try simp only [List.map_toArray,List.map_cons,List.map_nil]);first | done | rfl | (simp only [List.length_drop,List.length_take];rfl)) ?_;(with_reducible refine (proto_Parse.calls a1 t217 t220 t223 t224 _ ?side1 A10.out).mono ?_);(case side1 => exact hG.below (by repeat (with_reducible first | exact HB.out | apply Y3 | apply Y1 | apply Y2 | refine Y4 ?_ GE216.out)));rintro e w20 ⟨v218,v221,rfl,ho0,ho1,hb⟩;refine ⟨_,rfl,?_⟩;have n0_ := Y0 (Kd.N_mono (Kd.N_told (Kd.N_told (Kd.N_old (by (with_reducible repeat (first | apply Y20));exact (Kd.N_mono (Kd.N_far (p := ⟨gb216,1,none⟩) (Kd.N_far (p := ⟨gb216,0,none⟩) (Kd.N_mono HO210.out (fun k_ hk => (⟨hk,hk.2⟩ : _ ∧ k_ ≠ gb216))) (fun _ hk => hk.2) (.slice Ao17 t208.length co17)) (fun _ hk => hk.2) (.slice Ao19 t211.length co19)) (fun _ h_ => h_.1))) hb) (Kd.N_base (Kd.R_N ho0))) (Kd.N_base (Kd.R_N ho1))) (fun _ h_ => h_.1));have n1_ := Y0 (Kd.N_mono (Kd.N_told (Kd.N_told (Kd.N_old (by (with_reducible repeat (first | apply Y20));exact (Kd.N_mono (Kd.N_far (p := ⟨gb216,1,none⟩) (Kd.N_far (p := ⟨gb216,0,none⟩) (Kd.N_mono HO213.out (fun k_ hk => (⟨hk,hk.2⟩ : _ ∧ k_ ≠ gb216))) (fun _ hk => hk.2) (.slice Ao17 t208.length co17)) (fun _ hk => hk.2) (.slice Ao19 t211.length co19)) (fun _ h_ => h_.1))) hb) (Kd.N_base (Kd.R_N ho0))) (Kd.N_base (Kd.R_N ho1))) (fun _ h_ => h_.1));have n2_ := Y0 (Kd.N_lower (Kd.N_mono (ok' := fun k_ => nB k_ (v221) ∧ nB k_ (.slice Ao17 t208.length co17) ∧ nB k_ (.slice Ao19 t211.length co19) ∧ k_ ≠ gb216) (Kd.R_N (Kd.R_bound (Kd.R_apart' ho0 (Kd.R_typed ho1) (by decide)))) (fun k_ hk_ => ⟨hk_.1.2,(Kd.fresh' (Kd.N_lt (by (with_reducible repeat (first | apply Y20));exact (Kd.N_mono (Kd.N_far (p := ⟨gb216,1,none⟩) (Kd.N_far (p := ⟨gb216,0,none⟩) (Kd.N_mono HO210.out (fun k_ hk => (⟨hk,hk.2⟩ : _ ∧ k_ ≠ gb216))) (fun _ hk => hk.2) (.slice Ao17 t208.length co17)) (fun _ hk => hk.2) (.slice Ao19 t211.length co19)) (fun _ h_ => h_.1)))) k_ hk_.2.1),(Kd.fresh' (Kd.N_lt (by (with_reducible repeat (first | apply Y20));exact (Kd.N_mono (Kd.N_far (p := ⟨gb216,1,none⟩) (Kd.N_far (p := ⟨gb216,0,none⟩) (Kd.N_mono HO213.out (fun k_ hk => (⟨hk,hk.2⟩ : _ ∧ k_ ≠ gb216))) (fun _ hk => hk.2) (.slice Ao17 t208.length co17)) (fun _ hk => hk.2) (.slice Ao19 t211.length co19)) (fun _ h_ => h_.1)))) k_ hk_.2.1),(Kd.freshB (g := gb216) (o := .cells #[.slice Ao17 t208.length co17,.slice Ao19 t211.length co19] 26 (0,0)) (by (with_reducible repeat first | apply Y11 | apply Y13 | apply Y12);refine blk_put (cs := #[.slice Ao17 t208.length co17,.slice none 0 0]) ?_ 1 _ rfl;(with_reducible repeat first | apply Y11 | apply Y13 | apply Y12);refine blk_put (cs := #[.slice none 0 0,.slice none 0 0]) ?_ 0 _ rfl;(with_reducible repeat first | apply Y11 | apply Y13 | apply Y12);exact BK216.out) k_ hk_.2.1)⟩)) (below_size (by repeat (with_reducible first | exact HB.out | apply Y3 | apply Y1 | apply Y2 | refine Y4 ?_ GE216.out))));have n3_ := Y0 (Kd.N_lower (Kd.N_mono (ok' := fun k_ => nB k_ (v218) ∧ nB k_ (.slice Ao17 t208.length co17) ∧ nB k_ (.slice Ao19 t211.length co19) ∧ k_ ≠ gb216) (Kd.R_N (Kd.R_bound (Kd.R_apart' ho1 (Kd.R_typed ho0) (by decide)))) (fun k_ hk_ => ⟨hk_.1.2,(Kd.fresh' (Kd.N_lt (by (with_reducible repeat (first | apply Y20));exact (Kd.N_mono (Kd.N_far (p := ⟨gb216,1,none⟩) (Kd.N_far (p := ⟨gb216,0,none⟩) (Kd.N_mono HO210.out (fun k_ hk => (⟨hk,hk.2⟩ : _ ∧ k_ ≠ gb216))) (fun _ hk => hk.2) (.slice Ao17 t208.length co17)) (fun _ hk => hk.2) (.slice Ao19 t211.length co19)) (fun _ h_ => h_.1)))) k_ hk_.2.1),(Kd.fresh' (Kd.N_lt (by (with_reducible repeat (first | apply Y20));exact (Kd.N_mono (Kd.N_far (p := ⟨gb216,1,none⟩) (Kd.N_far (p := ⟨gb216,0,none⟩) (Kd.N_mono HO213.out (fun k_ hk => (⟨hk,hk.2⟩ : _ ∧ k_ ≠ gb216))) (fun _ hk => hk.2) (.slice Ao17 t208.length co17)) (fun _ hk => hk.2) (.slice Ao19 t211.length co19)) (fun _ h_ => h_.1)))) k_ hk_.2.1),(Kd.freshB (g := gb216) (o := .cells #[.slice Ao17 t208.length co17,.slice Ao19 t211.length co19] 26 (0,0)) (by (with_reducible repeat first | apply Y11 | apply Y13 | apply Y12);refine blk_put (cs := #[.slice Ao17 t208.length co17,.slice none 0 0]) ?_ 1 _ rfl;(with_reducible repeat first | apply Y11 | apply Y13 | apply Y12);refine blk_put (cs := #[.slice none 0 0,.slice none 0 0]) ?_ 0 _ rfl;(with_reducible repeat first | apply Y11 | apply Y13 | apply Y12);exact BK216.out) k_ hk_.2.1)⟩)) (below_size (by repeat (with_reducible first | exact HB.out | apply Y3 | apply Y1 | apply Y2 | refine Y4 ?_ GE216.out))));have n4_ := Y0 (blk_below (g := gb216) (o := .cells #[.slice Ao17 t208.length co17,.slice Ao19 t211.length co19] 26 (0,0)) (by (with_reducible repeat first | apply Y11 | apply Y13 | apply Y12);refine blk_put (cs := #[.slice Ao17 t208.length co17,.slice none 0 0]) ?_ 1 _ rfl;(with_reducible repeat first | apply Y11 | apply Y13 | apply Y12);refine blk_put (cs := #[.slice none 0 0,.slice none 0 0]) ?_ 0 _ rfl;(with_reducible repeat first | apply Y11 | apply Y13 | apply Y12);exact BK216.out) hb);have n5_ := Y0 (below_step (by repeat (with_reducible first | exact HB.out | apply Y3 | apply Y1 | apply Y2 | refine Y4 ?_ GE216.out)) hb);clear HO210;clear HO213;clear BK216;clear HB;have HO210 := n0_;have HO213 := n1_;have HO219 := n2_;have HO222 := n3_;have BK216 := n4_;have HB := n5_;clear n0_ n1_ n2_ n3_ n4_ n5_;(try clear hb);(try clear hb2);(try clear hk);(try clear hi);(try clear ho0);(try clear ho1)) | ((with_reducible refine gate_dst (N := 9) rfl ?_);(try (refine gate_guard (by rfl) ?_;dsimp only));refine box_event ?hg (N := 9) ?hd (cs := #[.slice none 0 0,.slice none 0 0]) (t := 26) ?hr ?_;(case hd => rfl);(case hg => rfl);(case hr => first | (go_simp;done) | (go_simp;rfl));intro gb225 hg w21 hbox hb;have n0_ := Y0 (Kd.N_below (Kd.N_elderB (by (with_reducible repeat (first | apply Y20));exact HO210.out) gb225 (Nat.le_of_eq hg.symm)) hb);have n1_ := Y0 (Kd.N_below (Kd.N_elderB (by (with_reducible repeat (first | apply Y20));exact HO213.out) gb225 (Nat.le_of_eq hg.symm)) hb);have n2_ := Y0 (Kd.N_below (Kd.N_elderB (by (with_reducible repeat (first | apply Y20));exact HO219.out) gb225 (Nat.le_of_eq hg.symm)) hb);have n3_ := Y0 (Kd.N_below (Kd.N_elderB (by (with_reducible repeat (first | apply Y20));exact HO222.out) gb225 (Nat.le_of_eq hg.symm)) hb);have n4_ := Y0 (blk_below (g := gb216) (o := .cells #[.slice Ao17 t208.length co17,.slice Ao19 t211.length co19] 26 (0,0)) (by (with_reducible repeat first | apply Y11 | apply Y13 | apply Y12);exact BK216.out) hb);have n5_ := Y0 (below_step (by repeat (with_reducible first | exact HB.out | apply Y3 | apply Y1 | apply Y2 | refine Y4 ?_ GE216.out)) hb);have n6_ := Y0 (hbox);have n7_ := Y0 ((by rw [hg];exact (below_size (by repeat (with_reducible first | exact HB.out | apply Y3 | apply Y1 | apply Y2 | refine Y4 ?_ GE216.out))) : w.heap.size ≤ gb225));have n8_ := Y0 ((by rw [hg];exact (below_size (by repeat (with_reducible first | exact HB.out | apply Y3 | apply Y1 | apply Y2 | refine Y4 ?_ GE216.out))) : w.heap.size ≤ gb225));have n9_ := Y0 ((by rw [hg];exact Nat.ne_of_lt (blk_lt (g := gb216) (o := .cells #[.slice Ao17 t208.length co17,.slice Ao19 t211.length co19] 26 (0,0)) (by (with_reducible repeat first | apply Y11 | apply Y13 | apply Y12);exact BK216.out)) : gb216 ≠ gb225));have n10_ := Y0 ((by rw [hg];exact Nat.ne_of_gt (blk_lt (g := gb216) (o := .cells #[.slice Ao17 t208.length co17,.slice Ao19 t211.length co19] 26 (0,0)) (by (with_reducible repeat first | apply Y11 | apply Y13 | apply Y12);exact BK216.out)) : gb225 ≠ gb216));clear HO210;clear HO213;clear HO219;clear HO222;clear BK216;clear HB;have HO210 := n0_;have HO213 := n1_;have HO219 := n2_;have HO222 := n3_;have BK216 := n4_;have HB := n5_;have BK225 := n6_;have GW225 := n7_;have GE225 := n8_;have NB216_225 := n9_;have NB225_216 := n10_;clear n0_ n1_ n2_ n3_ n4_ n5_ n6_ n7_ n8_ n9_ n10_;clear hb hbox hg;obtain ⟨Ao22,co22,eo22⟩ := Kd.N_slice HO219.out;subst eo22;have hnb23 := NB225_216.out;have hnc23 := NB216_225.out;have ⟨hcz24_0,hcz24_1,hfz24_0,hfz24_1⟩ := sq_box2 BK225.out;obtain ⟨Ao25,co25,eo25⟩ := Kd.N_slice HO222.out;subst eo25) | ((with_reducible refine gate_callee (f := 13) rfl ?_);refine goesL_ (some 47) rfl rfl Tryz.func13 (by kernel_rfl) rfl #[.string ((a0 ++ (⟨#[10]⟩ : ByteArray)) ++ a1)] rfl (by (try simp only [List.map_toArray,List.map_cons,List.map_nil]);first | done | rfl | (simp only [List.length_drop,List.length_take];rfl)) ?_;(with_reducible refine (proto_Parse.calls ((a0 ++ (⟨#[10]⟩ : ByteArray)) ++ a1) t226 t229 t232 t233 _ ?side1 A13.out).mono ?_);(case side1 => exact hG.below (by repeat (with_reducible first | exact HB.out | apply Y3 | apply Y1 | apply Y2 | refine Y4 ?_ GE216.out | refine Y4 ?_ GE225.out)));rintro e w26 ⟨v227,v230,rfl,ho0,ho1,hb⟩;refine ⟨_,rfl,?_⟩;have n0_ := Y0 (Kd.N_mono (Kd.N_told (Kd.N_told (Kd.N_old (by (with_reducible repeat (first | apply Y20));exact (Kd.N_mono (Kd.N_far (p := ⟨gb225,1,none⟩) (Kd.N_far (p := ⟨gb225,0,none⟩) (Kd.N_mono HO210.out (fun k_ hk => (⟨hk,hk.2⟩ : _ ∧ k_ ≠ gb225))) (fun _ hk => hk.2) (.slice Ao22 t217.length co22)) (fun _ hk => hk.2) (.slice Ao25 t220.length co25)) (fun _ h_ => h_.1))) hb) (Kd.N_base (Kd.R_N ho0))) (Kd.N_base (Kd.R_N ho1))) (fun _ h_ => h_.1));have n1_ := Y0 (Kd.N_mono (Kd.N_told (Kd.N_told (Kd.N_old (by (with_reducible repeat (first | apply Y20));exact (Kd.N_mono (Kd.N_far (p := ⟨gb225,1,none⟩) (Kd.N_far (p := ⟨gb225,0,none⟩) (Kd.N_mono HO213.out (fun k_ hk => (⟨hk,hk.2⟩ : _ ∧ k_ ≠ gb225))) (fun _ hk => hk.2) (.slice Ao22 t217.length co22)) (fun _ hk => hk.2) (.slice Ao25 t220.length co25)) (fun _ h_ => h_.1))) hb) (Kd.N_base (Kd.R_N ho0))) (Kd.N_base (Kd.R_N ho1))) (fun _ h_ => h_.1));have n2_ := Y0 (Kd.N_mono (Kd.N_told (Kd.N_told (Kd.N_old (by (with_reducible repeat (first | apply Y20));exact (Kd.N_mono (Kd.N_far (p := ⟨gb225,1,none⟩) (Kd.N_far (p := ⟨gb225,0,none⟩) (Kd.N_mono HO219.out (fun k_ hk => (⟨hk,hk.2⟩ : _ ∧ k_ ≠ gb225))) (fun _ hk => hk.2) (.slice Ao22 t217.length co22)) (fun _ hk => hk.2) (.slice Ao25 t220.length co25)) (fun _ h_ => h_.1))) hb) (Kd.N_base (Kd.R_N ho0))) (Kd.N_base (Kd.R_N ho1))) (fun _ h_ => h_.1));have n3_ := Y0 (Kd.N_mono (Kd.N_told (Kd.N_told (Kd.N_old (by (with_reducible repeat (first | apply Y20));exact (Kd.N_mono (Kd.N_far (p := ⟨gb225,1,none⟩) (Kd.N_far (p := ⟨gb225,0,none⟩) (Kd.N_mono HO222.out (fun k_ hk => (⟨hk,hk.2⟩ : _ ∧ k_ ≠ gb225))) (fun _ hk => hk.2) (.slice Ao22 t217.length co22)) (fun _ hk => hk.2) (.slice Ao25 t220.length co25)) (fun _ h_ => h_.1))) hb) (Kd.N_base (Kd.R_N ho0))) (Kd.N_base (Kd.R_N ho1))) (fun _ h_ => h_.1));have n4_ := Y0 (Kd.N_lower (Kd.N_mono (ok' := fun k_ => nB k_ (v230) ∧ nB k_ (.slice Ao17 t208.length co17) ∧ nB k_ (.slice Ao19 t211.length co19) ∧ nB k_ (.slice Ao22 t217.length co22) ∧ nB k_ (.slice Ao25 t220.length co25) ∧ k_ ≠ gb216 ∧ k_ ≠ gb225) (Kd.R_N (Kd.R_bound (Kd.R_apart' ho0 (Kd.R_typed ho1) (by decide)))) (fun k_ hk_ => ⟨hk_.1.2,(Kd.fresh' (Kd.N_lt (by (with_reducible repeat (first | apply Y20));exact (Kd.N_mono (Kd.N_far (p := ⟨gb225,1,none⟩) (Kd.N_far (p := ⟨gb225,0,none⟩) (Kd.N_mono HO210.out (fun k_ hk => (⟨hk,hk.2⟩ : _ ∧ k_ ≠ gb225))) (fun _ hk => hk.2) (.slice Ao22 t217.length co22)) (fun _ hk => hk.2) (.slice Ao25 t220.length co25)) (fun _ h_ => h_.1)))) k_ hk_.2.1),(Kd.fresh' (Kd.N_lt (by (with_reducible repeat (first | apply Y20));exact (Kd.N_mono (Kd.N_far (p := ⟨gb225,1,none⟩) (Kd.N_far (p := ⟨gb225,0,none⟩) (Kd.N_mono HO213.out (fun k_ hk => (⟨hk,hk.2⟩ : _ ∧ k_ ≠ gb225))) (fun _ hk => hk.2) (.slice Ao22 t217.length co22)) (fun _ hk => hk.2) (.slice Ao25 t220.length co25)) (fun _ h_ => h_.1)))) k_ hk_.2.1),(Kd.fresh' (Kd.N_lt (by (with_reducible repeat (first | apply Y20));exact (Kd.N_mono (Kd.N_far (p := ⟨gb225,1,none⟩) (Kd.N_far (p := ⟨gb225,0,none⟩) (Kd.N_mono HO219.out (fun k_ hk => (⟨hk,hk.2⟩ : _ ∧ k_ ≠ gb225))) (fun _ hk => hk.2) (.slice Ao22 t217.length co22)) (fun _ hk => hk.2) (.slice Ao25 t220.length co25)) (fun _ h_ => h_.1)))) k_ hk_.2.1),(Kd.fresh' (Kd.N_lt (by (with_reducible repeat (first | apply Y20));exact (Kd.N_mono (Kd.N_far (p := ⟨gb225,1,none⟩) (Kd.N_far (p := ⟨gb225,0,none⟩) (Kd.N_mono HO222.out (fun k_ hk => (⟨hk,hk.2⟩ : _ ∧ k_ ≠ gb225))) (fun _ hk => hk.2) (.slice Ao22 t217.length co22)) (fun _ hk => hk.2) (.slice Ao25 t220.length co25)) (fun _ h_ => h_.1)))) k_ hk_.2.1),(Kd.freshB (g := gb216) (o := .cells #[.slice Ao17 t208.length co17,.slice Ao19 t211.length co19] 26 (0,0)) (by (with_reducible repeat first | apply Y11 | apply Y13 | apply Y12);refine blk_far ?_ NB216_225.out _;(with_reducible repeat first | apply Y11 | apply Y13 | apply Y12);refine blk_far ?_ NB216_225.out _;(with_reducible repeat first | apply Y11 | apply Y13 | apply Y12);exact BK216.out) k_ hk_.2.1),(Kd.freshB (g := gb225) (o := .cells #[.slice Ao22 t217.length co22,.slice Ao25 t220.length co25] 26 (0,0)) (by (with_reducible repeat first | apply Y11 | apply Y13 | apply Y12);refine blk_put (cs := #[.slice Ao22 t217.length co22,.slice none 0 0]) ?_ 1 _ rfl;(with_reducible repeat first | apply Y11 | apply Y13 | apply Y12);refine blk_put (cs := #[.slice none 0 0,.slice none 0 0]) ?_ 0 _ rfl;(with_reducible repeat first | apply Y11 | apply Y13 | apply Y12);exact BK225.out) k_ hk_.2.1)⟩)) (below_size (by repeat (with_reducible first | exact HB.out | apply Y3 | apply Y1 | apply Y2 | refine Y4 ?_ GE216.out | refine Y4 ?_ GE225.out))));have n5_ := Y0 (Kd.N_lower (Kd.N_mono (ok' := fun k_ => nB k_ (v227) ∧ nB k_ (.slice Ao17 t208.length co17) ∧ nB k_ (.slice Ao19 t211.length co19) ∧ nB k_ (.slice Ao22 t217.length co22) ∧ nB k_ (.slice Ao25 t220.length co25) ∧ k_ ≠ gb216 ∧ k_ ≠ gb225) (Kd.R_N (Kd.R_bound (Kd.R_apart' ho1 (Kd.R_typed ho0) (by decide)))) (fun k_ hk_ => ⟨hk_.1.2,(Kd.fresh' (Kd.N_lt (by (with_reducible repeat (first | apply Y20));exact (Kd.N_mono (Kd.N_far (p := ⟨gb225,1,none⟩) (Kd.N_far (p := ⟨gb225,0,none⟩) (Kd.N_mono HO210.out (fun k_ hk => (⟨hk,hk.2⟩ : _ ∧ k_ ≠ gb225))) (fun _ hk => hk.2) (.slice Ao22 t217.length co22)) (fun _ hk => hk.2) (.slice Ao25 t220.length co25)) (fun _ h_ => h_.1)))) k_ hk_.2.1),(Kd.fresh' (Kd.N_lt (by (with_reducible repeat (first | apply Y20));exact (Kd.N_mono (Kd.N_far (p := ⟨gb225,1,none⟩) (Kd.N_far (p := ⟨gb225,0,none⟩) (Kd.N_mono HO213.out (fun k_ hk => (⟨hk,hk.2⟩ : _ ∧ k_ ≠ gb225))) (fun _ hk => hk.2) (.slice Ao22 t217.length co22)) (fun _ hk => hk.2) (.slice Ao25 t220.length co25)) (fun _ h_ => h_.1)))) k_ hk_.2.1),(Kd.fresh' (Kd.N_lt (by (with_reducible repeat (first | apply Y20));exact (Kd.N_mono (Kd.N_far (p := ⟨gb225,1,none⟩) (Kd.N_far (p := ⟨gb225,0,none⟩) (Kd.N_mono HO219.out (fun k_ hk => (⟨hk,hk.2⟩ : _ ∧ k_ ≠ gb225))) (fun _ hk => hk.2) (.slice Ao22 t217.length co22)) (fun _ hk => hk.2) (.slice Ao25 t220.length co25)) (fun _ h_ => h_.1)))) k_ hk_.2.1),(Kd.fresh' (Kd.N_lt (by (with_reducible repeat (first | apply Y20));exact (Kd.N_mono (Kd.N_far (p := ⟨gb225,1,none⟩) (Kd.N_far (p := ⟨gb225,0,none⟩) (Kd.N_mono HO222.out (fun k_ hk => (⟨hk,hk.2⟩ : _ ∧ k_ ≠ gb225))) (fun _ hk => hk.2) (.slice Ao22 t217.length co22)) (fun _ hk => hk.2) (.slice Ao25 t220.length co25)) (fun _ h_ => h_.1)))) k_ hk_.2.1),(Kd.freshB (g := gb216) (o := .cells #[.slice Ao17 t208.length co17,.slice Ao19 t211.length co19] 26 (0,0)) (by (with_reducible repeat first | apply Y11 | apply Y13 | apply Y12);refine blk_far ?_ NB216_225.out _;(with_reducible repeat first | apply Y11 | apply Y13 | apply Y12);refine blk_far ?_ NB216_225.out _;(with_reducible repeat first | apply Y11 | apply Y13 | apply Y12);exact BK216.out) k_ hk_.2.1),(Kd.freshB (g := gb225) (o := .cells #[.slice Ao22 t217.length co22,.slice Ao25 t220.length co25] 26 (0,0)) (by (with_reducible repeat first | apply Y11 | apply Y13 | apply Y12);refine blk_put (cs := #[.slice Ao22 t217.length co22,.slice none 0 0]) ?_ 1 _ rfl;(with_reducible repeat first | apply Y11 | apply Y13 | apply Y12);refine blk_put (cs := #[.slice none 0 0,.slice none 0 0]) ?_ 0 _ rfl;(with_reducible repeat first | apply Y11 | apply Y13 | apply Y12);exact BK225.out) k_ hk_.2.1)⟩)) (below_size (by repeat (with_reducible first | exact HB.out | apply Y3 | apply Y1 | apply Y2 | refine Y4 ?_ GE216.out | refine Y4 ?_ GE225.out))));have n6_ := Y0 (blk_below (g := gb216) (o := .cells #[.slice Ao17 t208.length co17,.slice Ao19 t211.length co19] 26 (0,0)) (by (with_reducible repeat first | apply Y11 | apply Y13 | apply Y12);refine blk_far ?_ NB216_225.out _;(with_reducible repeat first | apply Y11 | apply Y13 | apply Y12);refine blk_far ?_ NB216_225.out _;(with_reducible repeat first | apply Y11 | apply Y13 | apply Y12);exact BK216.out) hb);have n7_ := Y0 (blk_below (g := gb225) (o := .cells #[.slice Ao22 t217.length co22,.slice Ao25 t220.length co25] 26 (0,0)) (by (with_reducible repeat first | apply Y11 | apply Y13 | apply Y12);refine blk_put (cs := #[.slice Ao22 t217.length co22,.slice none 0 0]) ?_ 1 _ rfl;(with_reducible repeat first | apply Y11 | apply Y13 | apply Y12);refine blk_put (cs := #[.slice none 0 0,.slice none 0 0]) ?_ 0 _ rfl;(with_reducible repeat first | apply Y11 | apply Y13 | apply Y12);exact BK225.out) hb);have n8_ := Y0 (below_step (by repeat (with_reducible first | exact HB.out | apply Y3 | apply Y1 | apply Y2 | refine Y4 ?_ GE216.out | refine Y4 ?_ GE225.out)) hb);clear HO210;clear HO213;clear HO219;clear HO222;clear BK216;clear BK225;clear HB;have HO210 := n0_;have HO213 := n1_;have HO219 := n2_;have HO222 := n3_;have HO228 := n4_;have HO231 := n5_;have BK216 := n6_;have BK225 := n7_;have HB := n8_;clear n0_ n1_ n2_ n3_ n4_ n5_ n6_ n7_ n8_;(try clear hb);(try clear hb2);(try clear hk);(try clear hi);(try clear ho0);(try clear ho1)) | ((with_reducible refine gate_dst (N := 12) rfl ?_);(try (refine gate_guard (by rfl) ?_;dsimp only));refine box_event ?hg (N := 12) ?hd (cs := #[.slice none 0 0,.slice none 0 0]) (t := 26) ?hr ?_;(case hd => rfl);(case hg => rfl);(case hr => first | (go_simp;done) | (go_simp;rfl));intro gb234 hg w27 hbox hb;have n0_ := Y0 (Kd.N_below (Kd.N_elderB (by (with_reducible repeat (first | apply Y20));exact HO210.out) gb234 (Nat.le_of_eq hg.symm)) hb);have n1_ := Y0 (Kd.N_below (Kd.N_elderB (by (with_reducible repeat (first | apply Y20));exact HO213.out) gb234 (Nat.le_of_eq hg.symm)) hb);have n2_ := Y0 (Kd.N_below (Kd.N_elderB (by (with_reducible repeat (first | apply Y20));exact HO219.out) gb234 (Nat.le_of_eq hg.symm)) hb);have n3_ := Y0 (Kd.N_below (Kd.N_elderB (by (with_reducible repeat (first | apply Y20));exact HO222.out) gb234 (Nat.le_of_eq hg.symm)) hb);have n4_ := Y0 (Kd.N_below (Kd.N_elderB (by (with_reducible repeat (first | apply Y20));exact HO228.out) gb234 (Nat.le_of_eq hg.symm)) hb);have n5_ := Y0 (Kd.N_below (Kd.N_elderB (by (with_reducible repeat (first | apply Y20));exact HO231.out) gb234 (Nat.le_of_eq hg.symm)) hb);have n6_ := Y0 (blk_below (g := gb216) (o := .cells #[.slice Ao17 t208.length co17,.slice Ao19 t211.length co19] 26 (0,0)) (by (with_reducible repeat first | apply Y11 | apply Y13 | apply Y12);exact BK216.out) hb);have n7_ := Y0 (blk_below (g := gb225) (o := .cells #[.slice Ao22 t217.length co22,.slice Ao25 t220.length co25] 26 (0,0)) (by (with_reducible repeat first | apply Y11 | apply Y13 | apply Y12);exact BK225.out) hb);have n8_ := Y0 (below_step (by repeat (with_reducible first | exact HB.out | apply Y3 | apply Y1 | apply Y2 | refine Y4 ?_ GE216.out | refine Y4 ?_ GE225.out)) hb);have n9_ := Y0 (hbox);have n10_ := Y0 ((by rw [hg];exact (below_size (by repeat (with_reducible first | exact HB.out | apply Y3 | apply Y1 | apply Y2 | refine Y4 ?_ GE216.out | refine Y4 ?_ GE225.out))) : w.heap.size ≤ gb234));have n11_ := Y0 ((by rw [hg];exact (below_size (by repeat (with_reducible first | exact HB.out | apply Y3 | apply Y1 | apply Y2 | refine Y4 ?_ GE216.out | refine Y4 ?_ GE225.out))) : w.heap.size ≤ gb234));have n12_ := Y0 ((by rw [hg];exact Nat.ne_of_lt (blk_lt (g := gb216) (o := .cells #[.slice Ao17 t208.length co17,.slice Ao19 t211.length co19] 26 (0,0)) (by (with_reducible repeat first | apply Y11 | apply Y13 | apply Y12);exact BK216.out)) : gb216 ≠ gb234));have n13_ := Y0 ((by rw [hg];exact Nat.ne_of_gt (blk_lt (g := gb216) (o := .cells #[.slice Ao17 t208.length co17,.slice Ao19 t211.length co19] 26 (0,0)) (by (with_reducible repeat first | apply Y11 | apply Y13 | apply Y12);exact BK216.out)) : gb234 ≠ gb216));have n14_ := Y0 ((by rw [hg];exact Nat.ne_of_lt (blk_lt (g := gb225) (o := .cells #[.slice Ao22 t217.length co22,.slice Ao25 t220.length co25] 26 (0,0)) (by (with_reducible repeat first | apply Y11 | apply Y13 | apply Y12);exact BK225.out)) : gb225 ≠ gb234));have n15_ := Y0 ((by rw [hg];exact Nat.ne_of_gt (blk_lt (g := gb225) (o := .cells #[.slice Ao22 t217.length co22,.slice Ao25 t220.length co25] 26 (0,0)) (by (with_reducible repeat first | apply Y11 | apply Y13 | apply Y12);exact BK225.out)) : gb234 ≠ gb225));clear HO210;clear HO213;clear HO219;clear HO222;clear HO228;clear HO231;clear BK216;clear BK225;clear HB;have HO210 := n0_;have HO213 := n1_;have HO219 := n2_;have HO222 := n3_;have HO228 := n4_;have HO231 := n5_;have BK216 := n6_;have BK225 := n7_;have HB := n8_;have BK234 := n9_;have GW234 := n10_;have GE234 := n11_;have NB216_234 := n12_;have NB234_216 := n13_;have NB225_234 := n14_;have NB234_225 := n15_;clear n0_ n1_ n2_ n3_ n4_ n5_ n6_ n7_ n8_ n9_ n10_ n11_ n12_ n13_ n14_ n15_;clear hb hbox hg;obtain ⟨Ao28,co28,eo28⟩ := Kd.N_slice HO228.out;subst eo28;have hnb29 := NB234_216.out;have hnc29 := NB216_234.out;have hnb30 := NB234_225.out;have hnc30 := NB225_234.out;have ⟨hcz31_0,hcz31_1,hfz31_0,hfz31_1⟩ := sq_box2 BK234.out;obtain ⟨Ao32,co32,eo32⟩ := Kd.N_slice HO231.out;subst eo32))
   (try simp only [Act.put,Y14,Y15,Y16])
   go_cut [60] (fun v60 wc => ∃ (kq : Nat) (x60_13 : Bool),v60 = .bool x60_13 ∧ Aside0 (trufflelaw07_ProtoJoin.j1 kq a0 t223 t224 t232 t233 x60_13 t208 t211 t217 t220 t226 t229 = some true) ∧ Aside0 (kq ≤ kj3) ∧ Aside0 (Kd.N k34 34 wc w.heap.size (fun k_ => some k_ ≠ ((.slice Ao19 t211.length co19) : Value).ownBlock ∧ some k_ ≠ ((.slice Ao22 t217.length co22) : Value).ownBlock ∧ some k_ ≠ ((.slice Ao25 t220.length co25) : Value).ownBlock ∧ some k_ ≠ ((.slice Ao28 t226.length co28) : Value).ownBlock ∧ some k_ ≠ ((.slice Ao32 t229.length co32) : Value).ownBlock ∧ k_ ≠ gb216 ∧ k_ ≠ gb225 ∧ k_ ≠ gb234) (.slice Ao17 t208.length co17) t208) ∧ Aside0 (Kd.N k68 68 wc w.heap.size (fun k_ => some k_ ≠ ((.slice Ao17 t208.length co17) : Value).ownBlock ∧ some k_ ≠ ((.slice Ao22 t217.length co22) : Value).ownBlock ∧ some k_ ≠ ((.slice Ao25 t220.length co25) : Value).ownBlock ∧ some k_ ≠ ((.slice Ao28 t226.length co28) : Value).ownBlock ∧ some k_ ≠ ((.slice Ao32 t229.length co32) : Value).ownBlock ∧ k_ ≠ gb216 ∧ k_ ≠ gb225 ∧ k_ ≠ gb234) (.slice Ao19 t211.length co19) t211) ∧ Aside0 (Kd.N k34 34 wc w.heap.size (fun k_ => some k_ ≠ ((.slice Ao17 t208.length co17) : Value).ownBlock ∧ some k_ ≠ ((.slice Ao19 t211.length co19) : Value).ownBlock ∧ some k_ ≠ ((.slice Ao25 t220.length co25) : Value).ownBlock ∧ some k_ ≠ ((.slice Ao28 t226.length co28) : Value).ownBlock ∧ some k_ ≠ ((.slice Ao32 t229.length co32) : Value).ownBlock ∧ k_ ≠ gb216 ∧ k_ ≠ gb225 ∧ k_ ≠ gb234) (.slice Ao22 t217.length co22) t217) ∧ Aside0 (Kd.N k68 68 wc w.heap.size (fun k_ => some k_ ≠ ((.slice Ao17 t208.length co17) : Value).ownBlock ∧ some k_ ≠ ((.slice Ao19 t211.length co19) : Value).ownBlock ∧ some k_ ≠ ((.slice Ao22 t217.length co22) : Value).ownBlock ∧ some k_ ≠ ((.slice Ao28 t226.length co28) : Value).ownBlock ∧ some k_ ≠ ((.slice Ao32 t229.length co32) : Value).ownBlock ∧ k_ ≠ gb216 ∧ k_ ≠ gb225 ∧ k_ ≠ gb234) (.slice Ao25 t220.length co25) t220) ∧ Aside0 (Kd.N k34 34 wc w.heap.size (fun k_ => some k_ ≠ ((.slice Ao17 t208.length co17) : Value).ownBlock ∧ some k_ ≠ ((.slice Ao19 t211.length co19) : Value).ownBlock ∧ some k_ ≠ ((.slice Ao22 t217.length co22) : Value).ownBlock ∧ some k_ ≠ ((.slice Ao25 t220.length co25) : Value).ownBlock ∧ some k_ ≠ ((.slice Ao32 t229.length co32) : Value).ownBlock ∧ k_ ≠ gb216 ∧ k_ ≠ gb225 ∧ k_ ≠ gb234) (.slice Ao28 t226.length co28) t226) ∧ Aside0 (Kd.N k68 68 wc w.heap.size (fun k_ => some k_ ≠ ((.slice Ao17 t208.length co17) : Value).ownBlock ∧ some k_ ≠ ((.slice Ao19 t211.length co19) : Value).ownBlock ∧ some k_ ≠ ((.slice Ao22 t217.length co22) : Value).ownBlock ∧ some k_ ≠ ((.slice Ao25 t220.length co25) : Value).ownBlock ∧ some k_ ≠ ((.slice Ao28 t226.length co28) : Value).ownBlock ∧ k_ ≠ gb216 ∧ k_ ≠ gb225 ∧ k_ ≠ gb234) (.slice Ao32 t229.length co32) t229) ∧ Aside0 (wc.heap[gb216]? = some (.cells #[(.slice Ao17 t208.length co17),(.slice Ao19 t211.length co19)] 26 (0,0))) ∧ Aside0 (wc.heap[gb225]? = some (.cells #[(.slice Ao22 t217.length co22),(.slice Ao25 t220.length co25)] 26 (0,0))) ∧ Aside0 (wc.heap[gb234]? = some (.cells #[(.slice Ao28 t226.length co28),(.slice Ao32 t229.length co32)] 26 (0,0))) ∧ Aside0 (Below w.heap.size w wc))
   case first =>
    have H := HC14.out
    clear HC14
    by_cases c33 : t215 = 0
    rotate_left
    ·rw [if_neg c33] at H
     have c33b0 : (t215 == 0) = false := beq_eq_false_iff_ne.mpr c33
     have c33b1 : (t215 != 0) = true := bne_iff_ne.mpr c33
     (first | rw [c33b0] | (simp only [];rw [c33b0]) | skip)
     have H' := Y0 H
     clear H
     go_wp2
     go_meet
     case rel => exact ⟨_,(true),(by first | rfl | (simp;done) | (simp [*];done)),H',⟨by have := HJ3.out;first | omega | exact Nat.le_refl _⟩,⟨by (with_reducible repeat (first | apply Y20));exact Kd.N_mono (Kd.N_far (p := ⟨gb234,1,none⟩) (Kd.N_far (p := ⟨gb234,0,none⟩) (Kd.N_mono HO210.out (fun k_ hk => (⟨hk,hk.2⟩ : _ ∧ k_ ≠ gb234))) (fun _ hk => hk.2) (.slice Ao28 t226.length co28)) (fun _ hk => hk.2) (.slice Ao32 t229.length co32)) (fun _ hk => ⟨hk.1.1.1.1.1.1.1.1,⟨hk.1.1.1.1.1.1.2,⟨hk.1.1.1.1.1.2,⟨hk.1.1.1.2,⟨hk.1.1.2,⟨hk.1.1.1.1.1.1.1.2,⟨hk.1.1.1.1.2,hk.1.2⟩⟩⟩⟩⟩⟩⟩)⟩,⟨by (with_reducible repeat (first | apply Y20));exact Kd.N_mono (Kd.N_far (p := ⟨gb234,1,none⟩) (Kd.N_far (p := ⟨gb234,0,none⟩) (Kd.N_mono HO213.out (fun k_ hk => (⟨hk,hk.2⟩ : _ ∧ k_ ≠ gb234))) (fun _ hk => hk.2) (.slice Ao28 t226.length co28)) (fun _ hk => hk.2) (.slice Ao32 t229.length co32)) (fun _ hk => ⟨hk.1.1.1.1.1.1.1.1,⟨hk.1.1.1.1.1.1.2,⟨hk.1.1.1.1.1.2,⟨hk.1.1.1.2,⟨hk.1.1.2,⟨hk.1.1.1.1.1.1.1.2,⟨hk.1.1.1.1.2,hk.1.2⟩⟩⟩⟩⟩⟩⟩)⟩,⟨by (with_reducible repeat (first | apply Y20));exact Kd.N_mono (Kd.N_far (p := ⟨gb234,1,none⟩) (Kd.N_far (p := ⟨gb234,0,none⟩) (Kd.N_mono HO219.out (fun k_ hk => (⟨hk,hk.2⟩ : _ ∧ k_ ≠ gb234))) (fun _ hk => hk.2) (.slice Ao28 t226.length co28)) (fun _ hk => hk.2) (.slice Ao32 t229.length co32)) (fun _ hk => ⟨hk.1.1.1.1.1.2.1,⟨hk.1.1.1.1.1.2.2.1,⟨hk.1.1.1.1.1.1,⟨hk.1.1.1.2,⟨hk.1.1.2,⟨hk.1.1.1.1.1.2.2.2,⟨hk.1.1.1.1.2,hk.1.2⟩⟩⟩⟩⟩⟩⟩)⟩,⟨by (with_reducible repeat (first | apply Y20));exact Kd.N_mono (Kd.N_far (p := ⟨gb234,1,none⟩) (Kd.N_far (p := ⟨gb234,0,none⟩) (Kd.N_mono HO222.out (fun k_ hk => (⟨hk,hk.2⟩ : _ ∧ k_ ≠ gb234))) (fun _ hk => hk.2) (.slice Ao28 t226.length co28)) (fun _ hk => hk.2) (.slice Ao32 t229.length co32)) (fun _ hk => ⟨hk.1.1.1.1.1.2.1,⟨hk.1.1.1.1.1.2.2.1,⟨hk.1.1.1.1.1.1,⟨hk.1.1.1.2,⟨hk.1.1.2,⟨hk.1.1.1.1.1.2.2.2,⟨hk.1.1.1.1.2,hk.1.2⟩⟩⟩⟩⟩⟩⟩)⟩,⟨by (with_reducible repeat (first | apply Y20));exact Kd.N_mono (Kd.N_far (p := ⟨gb234,1,none⟩) (Kd.N_far (p := ⟨gb234,0,none⟩) (Kd.N_mono HO228.out (fun k_ hk => (⟨hk,hk.2⟩ : _ ∧ k_ ≠ gb234))) (fun _ hk => hk.2) (.slice Ao28 t226.length co28)) (fun _ hk => hk.2) (.slice Ao32 t229.length co32)) (fun _ hk => ⟨hk.1.1.2.1,⟨hk.1.1.2.2.1,⟨hk.1.1.2.2.2.1,⟨hk.1.1.2.2.2.2.1,⟨hk.1.1.1,⟨hk.1.1.2.2.2.2.2.1,⟨hk.1.1.2.2.2.2.2.2,hk.1.2⟩⟩⟩⟩⟩⟩⟩)⟩,⟨by (with_reducible repeat (first | apply Y20));exact Kd.N_mono (Kd.N_far (p := ⟨gb234,1,none⟩) (Kd.N_far (p := ⟨gb234,0,none⟩) (Kd.N_mono HO231.out (fun k_ hk => (⟨hk,hk.2⟩ : _ ∧ k_ ≠ gb234))) (fun _ hk => hk.2) (.slice Ao28 t226.length co28)) (fun _ hk => hk.2) (.slice Ao32 t229.length co32)) (fun _ hk => ⟨hk.1.1.2.1,⟨hk.1.1.2.2.1,⟨hk.1.1.2.2.2.1,⟨hk.1.1.2.2.2.2.1,⟨hk.1.1.1,⟨hk.1.1.2.2.2.2.2.1,⟨hk.1.1.2.2.2.2.2.2,hk.1.2⟩⟩⟩⟩⟩⟩⟩)⟩,⟨by (with_reducible repeat first | apply Y11 | apply Y13 | apply Y12);refine blk_far ?_ NB216_234.out _;(with_reducible repeat first | apply Y11 | apply Y13 | apply Y12);refine blk_far ?_ NB216_234.out _;(with_reducible repeat first | apply Y11 | apply Y13 | apply Y12);exact BK216.out⟩,⟨by (with_reducible repeat first | apply Y11 | apply Y13 | apply Y12);refine blk_far ?_ NB225_234.out _;(with_reducible repeat first | apply Y11 | apply Y13 | apply Y12);refine blk_far ?_ NB225_234.out _;(with_reducible repeat first | apply Y11 | apply Y13 | apply Y12);exact BK225.out⟩,⟨by (with_reducible repeat first | apply Y11 | apply Y13 | apply Y12);refine blk_put (cs := #[.slice Ao28 t226.length co28,.slice none 0 0]) ?_ 1 _ rfl;(with_reducible repeat first | apply Y11 | apply Y13 | apply Y12);refine blk_put (cs := #[.slice none 0 0,.slice none 0 0]) ?_ 0 _ rfl;(with_reducible repeat first | apply Y11 | apply Y13 | apply Y12);exact BK234.out⟩,⟨by repeat (with_reducible first | exact HB.out | apply Y3 | apply Y1 | apply Y2 | refine Y4 ?_ GE216.out | refine Y4 ?_ GE225.out | refine Y4 ?_ GE234.out)⟩⟩
    rw [if_pos c33] at H
    have c33b0 : (t215 == 0) = true := beq_iff_eq.mpr c33
    have c33b1 : (t215 != 0) = false := bne_eq_false_iff_eq.mpr c33
    clear c33
    (first | rw [c33b0] | (simp only [];rw [c33b0]) | skip)
    by_cases c34 : t224 = 2
    rotate_left
    ·rw [if_neg c34] at H
     have c34b0 : (t224 == 2) = false := beq_eq_false_iff_ne.mpr c34
     have c34b1 : (t224 != 2) = true := bne_iff_ne.mpr c34
     have H' := Y0 H
     clear H
     go_wp2
     go_meet
     case rel => exact ⟨_,((t233 == 2)),(by first | rfl | (simp;done) | (simp [*];done)),H',⟨by have := HJ3.out;first | omega | exact Nat.le_refl _⟩,⟨by (with_reducible repeat (first | apply Y20));exact Kd.N_mono (Kd.N_far (p := ⟨gb234,1,none⟩) (Kd.N_far (p := ⟨gb234,0,none⟩) (Kd.N_mono HO210.out (fun k_ hk => (⟨hk,hk.2⟩ : _ ∧ k_ ≠ gb234))) (fun _ hk => hk.2) (.slice Ao28 t226.length co28)) (fun _ hk => hk.2) (.slice Ao32 t229.length co32)) (fun _ hk => ⟨hk.1.1.1.1.1.1.1.1,⟨hk.1.1.1.1.1.1.2,⟨hk.1.1.1.1.1.2,⟨hk.1.1.1.2,⟨hk.1.1.2,⟨hk.1.1.1.1.1.1.1.2,⟨hk.1.1.1.1.2,hk.1.2⟩⟩⟩⟩⟩⟩⟩)⟩,⟨by (with_reducible repeat (first | apply Y20));exact Kd.N_mono (Kd.N_far (p := ⟨gb234,1,none⟩) (Kd.N_far (p := ⟨gb234,0,none⟩) (Kd.N_mono HO213.out (fun k_ hk => (⟨hk,hk.2⟩ : _ ∧ k_ ≠ gb234))) (fun _ hk => hk.2) (.slice Ao28 t226.length co28)) (fun _ hk => hk.2) (.slice Ao32 t229.length co32)) (fun _ hk => ⟨hk.1.1.1.1.1.1.1.1,⟨hk.1.1.1.1.1.1.2,⟨hk.1.1.1.1.1.2,⟨hk.1.1.1.2,⟨hk.1.1.2,⟨hk.1.1.1.1.1.1.1.2,⟨hk.1.1.1.1.2,hk.1.2⟩⟩⟩⟩⟩⟩⟩)⟩,⟨by (with_reducible repeat (first | apply Y20));exact Kd.N_mono (Kd.N_far (p := ⟨gb234,1,none⟩) (Kd.N_far (p := ⟨gb234,0,none⟩) (Kd.N_mono HO219.out (fun k_ hk => (⟨hk,hk.2⟩ : _ ∧ k_ ≠ gb234))) (fun _ hk => hk.2) (.slice Ao28 t226.length co28)) (fun _ hk => hk.2) (.slice Ao32 t229.length co32)) (fun _ hk => ⟨hk.1.1.1.1.1.2.1,⟨hk.1.1.1.1.1.2.2.1,⟨hk.1.1.1.1.1.1,⟨hk.1.1.1.2,⟨hk.1.1.2,⟨hk.1.1.1.1.1.2.2.2,⟨hk.1.1.1.1.2,hk.1.2⟩⟩⟩⟩⟩⟩⟩)⟩,⟨by (with_reducible repeat (first | apply Y20));exact Kd.N_mono (Kd.N_far (p := ⟨gb234,1,none⟩) (Kd.N_far (p := ⟨gb234,0,none⟩) (Kd.N_mono HO222.out (fun k_ hk => (⟨hk,hk.2⟩ : _ ∧ k_ ≠ gb234))) (fun _ hk => hk.2) (.slice Ao28 t226.length co28)) (fun _ hk => hk.2) (.slice Ao32 t229.length co32)) (fun _ hk => ⟨hk.1.1.1.1.1.2.1,⟨hk.1.1.1.1.1.2.2.1,⟨hk.1.1.1.1.1.1,⟨hk.1.1.1.2,⟨hk.1.1.2,⟨hk.1.1.1.1.1.2.2.2,⟨hk.1.1.1.1.2,hk.1.2⟩⟩⟩⟩⟩⟩⟩)⟩,⟨by (with_reducible repeat (first | apply Y20));exact Kd.N_mono (Kd.N_far (p := ⟨gb234,1,none⟩) (Kd.N_far (p := ⟨gb234,0,none⟩) (Kd.N_mono HO228.out (fun k_ hk => (⟨hk,hk.2⟩ : _ ∧ k_ ≠ gb234))) (fun _ hk => hk.2) (.slice Ao28 t226.length co28)) (fun _ hk => hk.2) (.slice Ao32 t229.length co32)) (fun _ hk => ⟨hk.1.1.2.1,⟨hk.1.1.2.2.1,⟨hk.1.1.2.2.2.1,⟨hk.1.1.2.2.2.2.1,⟨hk.1.1.1,⟨hk.1.1.2.2.2.2.2.1,⟨hk.1.1.2.2.2.2.2.2,hk.1.2⟩⟩⟩⟩⟩⟩⟩)⟩,⟨by (with_reducible repeat (first | apply Y20));exact Kd.N_mono (Kd.N_far (p := ⟨gb234,1,none⟩) (Kd.N_far (p := ⟨gb234,0,none⟩) (Kd.N_mono HO231.out (fun k_ hk => (⟨hk,hk.2⟩ : _ ∧ k_ ≠ gb234))) (fun _ hk => hk.2) (.slice Ao28 t226.length co28)) (fun _ hk => hk.2) (.slice Ao32 t229.length co32)) (fun _ hk => ⟨hk.1.1.2.1,⟨hk.1.1.2.2.1,⟨hk.1.1.2.2.2.1,⟨hk.1.1.2.2.2.2.1,⟨hk.1.1.1,⟨hk.1.1.2.2.2.2.2.1,⟨hk.1.1.2.2.2.2.2.2,hk.1.2⟩⟩⟩⟩⟩⟩⟩)⟩,⟨by (with_reducible repeat first | apply Y11 | apply Y13 | apply Y12);refine blk_far ?_ NB216_234.out _;(with_reducible repeat first | apply Y11 | apply Y13 | apply Y12);refine blk_far ?_ NB216_234.out _;(with_reducible repeat first | apply Y11 | apply Y13 | apply Y12);exact BK216.out⟩,⟨by (with_reducible repeat first | apply Y11 | apply Y13 | apply Y12);refine blk_far ?_ NB225_234.out _;(with_reducible repeat first | apply Y11 | apply Y13 | apply Y12);refine blk_far ?_ NB225_234.out _;(with_reducible repeat first | apply Y11 | apply Y13 | apply Y12);exact BK225.out⟩,⟨by (with_reducible repeat first | apply Y11 | apply Y13 | apply Y12);refine blk_put (cs := #[.slice Ao28 t226.length co28,.slice none 0 0]) ?_ 1 _ rfl;(with_reducible repeat first | apply Y11 | apply Y13 | apply Y12);refine blk_put (cs := #[.slice none 0 0,.slice none 0 0]) ?_ 0 _ rfl;(with_reducible repeat first | apply Y11 | apply Y13 | apply Y12);exact BK234.out⟩,⟨by repeat (with_reducible first | exact HB.out | apply Y3 | apply Y1 | apply Y2 | refine Y4 ?_ GE216.out | refine Y4 ?_ GE225.out | refine Y4 ?_ GE234.out)⟩⟩
    rw [if_pos c34] at H
    have c34b0 : (t224 == 2) = true := beq_iff_eq.mpr c34
    have c34b1 : (t224 != 2) = false := bne_eq_false_iff_eq.mpr c34
    clear c34
    have H' := Y0 H
    clear H
    go_wp2
    go_meet
    case rel => exact ⟨_,(true),(by first | rfl | (simp;done) | (simp [*];done)),H',⟨by have := HJ3.out;first | omega | exact Nat.le_refl _⟩,⟨by (with_reducible repeat (first | apply Y20));exact Kd.N_mono (Kd.N_far (p := ⟨gb234,1,none⟩) (Kd.N_far (p := ⟨gb234,0,none⟩) (Kd.N_mono HO210.out (fun k_ hk => (⟨hk,hk.2⟩ : _ ∧ k_ ≠ gb234))) (fun _ hk => hk.2) (.slice Ao28 t226.length co28)) (fun _ hk => hk.2) (.slice Ao32 t229.length co32)) (fun _ hk => ⟨hk.1.1.1.1.1.1.1.1,⟨hk.1.1.1.1.1.1.2,⟨hk.1.1.1.1.1.2,⟨hk.1.1.1.2,⟨hk.1.1.2,⟨hk.1.1.1.1.1.1.1.2,⟨hk.1.1.1.1.2,hk.1.2⟩⟩⟩⟩⟩⟩⟩)⟩,⟨by (with_reducible repeat (first | apply Y20));exact Kd.N_mono (Kd.N_far (p := ⟨gb234,1,none⟩) (Kd.N_far (p := ⟨gb234,0,none⟩) (Kd.N_mono HO213.out (fun k_ hk => (⟨hk,hk.2⟩ : _ ∧ k_ ≠ gb234))) (fun _ hk => hk.2) (.slice Ao28 t226.length co28)) (fun _ hk => hk.2) (.slice Ao32 t229.length co32)) (fun _ hk => ⟨hk.1.1.1.1.1.1.1.1,⟨hk.1.1.1.1.1.1.2,⟨hk.1.1.1.1.1.2,⟨hk.1.1.1.2,⟨hk.1.1.2,⟨hk.1.1.1.1.1.1.1.2,⟨hk.1.1.1.1.2,hk.1.2⟩⟩⟩⟩⟩⟩⟩)⟩,⟨by (with_reducible repeat (first | apply Y20));exact Kd.N_mono (Kd.N_far (p := ⟨gb234,1,none⟩) (Kd.N_far (p := ⟨gb234,0,none⟩) (Kd.N_mono HO219.out (fun k_ hk => (⟨hk,hk.2⟩ : _ ∧ k_ ≠ gb234))) (fun _ hk => hk.2) (.slice Ao28 t226.length co28)) (fun _ hk => hk.2) (.slice Ao32 t229.length co32)) (fun _ hk => ⟨hk.1.1.1.1.1.2.1,⟨hk.1.1.1.1.1.2.2.1,⟨hk.1.1.1.1.1.1,⟨hk.1.1.1.2,⟨hk.1.1.2,⟨hk.1.1.1.1.1.2.2.2,⟨hk.1.1.1.1.2,hk.1.2⟩⟩⟩⟩⟩⟩⟩)⟩,⟨by (with_reducible repeat (first | apply Y20));exact Kd.N_mono (Kd.N_far (p := ⟨gb234,1,none⟩) (Kd.N_far (p := ⟨gb234,0,none⟩) (Kd.N_mono HO222.out (fun k_ hk => (⟨hk,hk.2⟩ : _ ∧ k_ ≠ gb234))) (fun _ hk => hk.2) (.slice Ao28 t226.length co28)) (fun _ hk => hk.2) (.slice Ao32 t229.length co32)) (fun _ hk => ⟨hk.1.1.1.1.1.2.1,⟨hk.1.1.1.1.1.2.2.1,⟨hk.1.1.1.1.1.1,⟨hk.1.1.1.2,⟨hk.1.1.2,⟨hk.1.1.1.1.1.2.2.2,⟨hk.1.1.1.1.2,hk.1.2⟩⟩⟩⟩⟩⟩⟩)⟩,⟨by (with_reducible repeat (first | apply Y20));exact Kd.N_mono (Kd.N_far (p := ⟨gb234,1,none⟩) (Kd.N_far (p := ⟨gb234,0,none⟩) (Kd.N_mono HO228.out (fun k_ hk => (⟨hk,hk.2⟩ : _ ∧ k_ ≠ gb234))) (fun _ hk => hk.2) (.slice Ao28 t226.length co28)) (fun _ hk => hk.2) (.slice Ao32 t229.length co32)) (fun _ hk => ⟨hk.1.1.2.1,⟨hk.1.1.2.2.1,⟨hk.1.1.2.2.2.1,⟨hk.1.1.2.2.2.2.1,⟨hk.1.1.1,⟨hk.1.1.2.2.2.2.2.1,⟨hk.1.1.2.2.2.2.2.2,hk.1.2⟩⟩⟩⟩⟩⟩⟩)⟩,⟨by (with_reducible repeat (first | apply Y20));exact Kd.N_mono (Kd.N_far (p := ⟨gb234,1,none⟩) (Kd.N_far (p := ⟨gb234,0,none⟩) (Kd.N_mono HO231.out (fun k_ hk => (⟨hk,hk.2⟩ : _ ∧ k_ ≠ gb234))) (fun _ hk => hk.2) (.slice Ao28 t226.length co28)) (fun _ hk => hk.2) (.slice Ao32 t229.length co32)) (fun _ hk => ⟨hk.1.1.2.1,⟨hk.1.1.2.2.1,⟨hk.1.1.2.2.2.1,⟨hk.1.1.2.2.2.2.1,⟨hk.1.1.1,⟨hk.1.1.2.2.2.2.2.1,⟨hk.1.1.2.2.2.2.2.2,hk.1.2⟩⟩⟩⟩⟩⟩⟩)⟩,⟨by (with_reducible repeat first | apply Y11 | apply Y13 | apply Y12);refine blk_far ?_ NB216_234.out _;(with_reducible repeat first | apply Y11 | apply Y13 | apply Y12);refine blk_far ?_ NB216_234.out _;(with_reducible repeat first | apply Y11 | apply Y13 | apply Y12);exact BK216.out⟩,⟨by (with_reducible repeat first | apply Y11 | apply Y13 | apply Y12);refine blk_far ?_ NB225_234.out _;(with_reducible repeat first | apply Y11 | apply Y13 | apply Y12);refine blk_far ?_ NB225_234.out _;(with_reducible repeat first | apply Y11 | apply Y13 | apply Y12);exact BK225.out⟩,⟨by (with_reducible repeat first | apply Y11 | apply Y13 | apply Y12);refine blk_put (cs := #[.slice Ao28 t226.length co28,.slice none 0 0]) ?_ 1 _ rfl;(with_reducible repeat first | apply Y11 | apply Y13 | apply Y12);refine blk_put (cs := #[.slice none 0 0,.slice none 0 0]) ?_ 0 _ rfl;(with_reducible repeat first | apply Y11 | apply Y13 | apply Y12);exact BK234.out⟩,⟨by repeat (with_reducible first | exact HB.out | apply Y3 | apply Y1 | apply Y2 | refine Y4 ?_ GE216.out | refine Y4 ?_ GE225.out | refine Y4 ?_ GE234.out)⟩⟩
   case rest =>
    clear HC14
    obtain ⟨kq,x60_13,rfl,HA,HJ13,HO_217000,HO_217001,HO_226000,HO_226001,HO_235000,HO_235001,BK216,BK225,BK234,HB⟩ := hcut
    cases kq with
    | zero => exact absurd HA.out (by simp [trufflelaw07_ProtoJoin.j1])
    | succ kj13 =>
     have H := HA.out
     clear HA
     simp only [trufflelaw07_ProtoJoin.j1] at H
     by_cases c35 : x60_13 = true
     ·subst c35
      rw [if_pos rfl] at H
      clear H
      go_wp2
      go_ret
      exact ⟨by first | rfl | (simp [] <;> rfl) | (simp [*] <;> rfl),by repeat (with_reducible first | exact HB.out | apply Y3 | apply Y1 | apply Y2 | refine Y4 ?_ GE216.out | refine Y4 ?_ GE225.out | refine Y4 ?_ GE234.out)⟩
     replace c35 := Bool.eq_false_iff.mpr c35
     subst c35
     rw [if_neg (show ¬ (false = true) by decide)] at H
     by_cases c36 : ([] : List (S34)).length + t208.length < 1466015503701
     rotate_left
     ·rw [if_neg c36] at H
      exact absurd H (by simp)
     rw [if_pos c36] at H
     have LMc36 := Y0 c36
     clear c36
     obtain ⟨y235,hy235⟩ : ∃ y_ : List (S34),y_ = (([] : List (S34)) ++ t208) := ⟨_,rfl⟩
     replace H : (if y235.length + t217.length < 1466015503701 then (if ([] : List (S68)).length + t211.length < 2932031007402 then ((some (([] : List (S68)) ++ t211 : List (S68))).bind fun y241 => (if y241.length + t220.length < 2932031007402 then (if t224 = 0 then (if t233 = 0 then ((proto_Same.f t226 t229 (y235 ++ t217) (y241 ++ t220)).bind fun t248 => (some t248)) else (some false)) else (if t233 = t224 then (some (t232 == (wrap64 ((wrap64 (t223 + (a0.size : Int))) + 1)))) else (some false))) else (none))) else (none)) else (none)) = some true := by first | (rw [hy235];with_reducible exact H) | (have H2_ := (Option.bind_some _ _).symm.trans H;rw [hy235];with_reducible exact H2_) | (have H2_ := (Option.bind_some _ _).symm.trans H;with_reducible exact H2_) | with_reducible exact H | (rw [hy235];exact H) | exact H
     have Ny235 := Y0 hy235
     clear hy235
     by_cases c37 : y235.length + t217.length < 1466015503701
     rotate_left
     ·rw [if_neg c37] at H
      exact absurd H (by simp)
     rw [if_pos c37] at H
     have LMc37 := Y0 c37
     clear c37
     obtain ⟨y238,hy238⟩ : ∃ y_ : List (S34),y_ = (y235 ++ t217) := ⟨_,rfl⟩
     replace H : (if ([] : List (S68)).length + t211.length < 2932031007402 then ((some (([] : List (S68)) ++ t211 : List (S68))).bind fun y241 => (if y241.length + t220.length < 2932031007402 then (if t224 = 0 then (if t233 = 0 then ((proto_Same.f t226 t229 y238 (y241 ++ t220)).bind fun t248 => (some t248)) else (some false)) else (if t233 = t224 then (some (t232 == (wrap64 ((wrap64 (t223 + (a0.size : Int))) + 1)))) else (some false))) else (none))) else (none)) = some true := by first | (rw [hy238];with_reducible exact H) | (have H2_ := (Option.bind_some _ _).symm.trans H;rw [hy238];with_reducible exact H2_) | (have H2_ := (Option.bind_some _ _).symm.trans H;with_reducible exact H2_) | with_reducible exact H | (rw [hy238];exact H) | exact H
     have Ny238 := Y0 hy238
     clear hy238
     by_cases c38 : ([] : List (S68)).length + t211.length < 2932031007402
     rotate_left
     ·rw [if_neg c38] at H
      exact absurd H (by simp)
     rw [if_pos c38] at H
     have LMc38 := Y0 c38
     clear c38
     obtain ⟨y241,hy241⟩ : ∃ y_ : List (S68),y_ = (([] : List (S68)) ++ t211) := ⟨_,rfl⟩
     replace H : (if y241.length + t220.length < 2932031007402 then (if t224 = 0 then (if t233 = 0 then ((proto_Same.f t226 t229 y238 (y241 ++ t220)).bind fun t248 => (some t248)) else (some false)) else (if t233 = t224 then (some (t232 == (wrap64 ((wrap64 (t223 + (a0.size : Int))) + 1)))) else (some false))) else (none)) = some true := by first | (rw [hy241];with_reducible exact H) | (have H2_ := (Option.bind_some _ _).symm.trans H;rw [hy241];with_reducible exact H2_) | (have H2_ := (Option.bind_some _ _).symm.trans H;with_reducible exact H2_) | with_reducible exact H | (rw [hy241];exact H) | exact H
     have Ny241 := Y0 hy241
     clear hy241
     by_cases c39 : y241.length + t220.length < 2932031007402
     rotate_left
     ·rw [if_neg c39] at H
      exact absurd H (by simp)
     rw [if_pos c39] at H
     have LMc39 := Y0 c39
     clear c39
     obtain ⟨y244,hy244⟩ : ∃ y_ : List (S68),y_ = (y241 ++ t220) := ⟨_,rfl⟩
     replace H : (if t224 = 0 then (if t233 = 0 then ((proto_Same.f t226 t229 y238 y244).bind fun t248 => (some t248)) else (some false)) else (if t233 = t224 then (some (t232 == (wrap64 ((wrap64 (t223 + (a0.size : Int))) + 1)))) else (some false))) = some true := by first | (rw [hy244];with_reducible exact H) | (have H2_ := (Option.bind_some _ _).symm.trans H;rw [hy244];with_reducible exact H2_) | (have H2_ := (Option.bind_some _ _).symm.trans H;with_reducible exact H2_) | with_reducible exact H | (rw [hy244];exact H) | exact H
     have Ny244 := Y0 hy244
     clear hy244
     have HCM := Y0 H
     clear H
     try go_wp2
     have n0_ := Y0 (Kd.N_drew HO_217000.out)
     have n1_ := Y0 (Kd.N_drew HO_217001.out)
     have n2_ := Y0 (Kd.N_drew HO_226000.out)
     have n3_ := Y0 (Kd.N_drew HO_226001.out)
     have n4_ := Y0 (Kd.N_drew HO_235000.out)
     have n5_ := Y0 (Kd.N_drew HO_235001.out)
     have n6_ := Y0 (blk_drew BK216.out)
     have n7_ := Y0 (blk_drew BK225.out)
     have n8_ := Y0 (blk_drew BK234.out)
     have n9_ := Y0 (below_drew1 HB.out)
     clear HO_217000 HO_217001 HO_226000 HO_226001 HO_235000 HO_235001 BK216 BK225 BK234 HB
     have HO_217000 := n0_
     have HO_217001 := n1_
     have HO_226000 := n2_
     have HO_226001 := n3_
     have HO_235000 := n4_
     have HO_235001 := n5_
     have BK216 := n6_
     have BK225 := n7_
     have BK234 := n8_
     have HB := n9_
     clear n0_ n1_ n2_ n3_ n4_ n5_ n6_ n7_ n8_ n9_
     refine start_ (n := 15) (S := fun w' => w'.cell? ⟨gb216,0,none⟩ = some (.slice Ao17 t208.length co17) ∧ w'.cell? ⟨gb216,1,none⟩ = some (.slice Ao19 t211.length co19) ∧ w'.cell? ⟨gb225,0,none⟩ = some (.slice Ao22 t217.length co22) ∧ w'.cell? ⟨gb225,1,none⟩ = some (.slice Ao25 t220.length co25)) (ds := []) #[false,false,false,false,false,false,false,false,false,false,false,false,false,false,false] (by kernel_rfl) rfl rfl ⟨(blk_cell BK216.out 0).trans rfl,(blk_cell BK216.out 1).trans rfl,(blk_cell BK225.out 0).trans rfl,(blk_cell BK225.out 1).trans rfl⟩ (fun hHeld => ?_);refine with_tabW trufflelaw07_ProtoJoin.tab9 trufflelaw07_ProtoJoin.bits9 (fun HT_ HW_ => ?_)
     generalize wc.drew = w43 at HO_217000 HO_217001 HO_226000 HO_226001 HO_235000 HO_235001 BK216 BK225 BK234 HB hHeld ⊢
     refine pure_ (i := 0) (N := some 61) (v := ?_) (a' := ?_) (sqB 15 1) rfl rfl (any_of HT_.out (by kernel_rfl)) (fun _ _ _ h => h) (Or.inl ⟨by rfl,?_⟩) ?_ ?_
     rotate_left
     ·intro w'
      go_simp
      with_reducible rfl
     rotate_left
     ·simp only [Act.put,Y14,Y15,Y16]
      rfl
     refine pure_ (i := 3) (N := some 64) (v := ?_) (a' := ?_) (sqB 15 9) rfl rfl (any_of HT_.out (by kernel_rfl)) (fun _ _ _ h => h) (Or.inl ⟨by rfl,?_⟩) ?_ ?_
     rotate_left
     ·intro w'
      go_simp
      with_reducible rfl
     rotate_left
     ·simp only [Act.put,Y14,Y15,Y16]
      rfl
     refine pure_ (i := 6) (N := some 67) (v := ?_) (a' := ?_) (sqB 15 73) rfl rfl (any_of HT_.out (by kernel_rfl)) (fun _ _ _ h => h) (Or.inl ⟨by rfl,?_⟩) ?_ ?_
     rotate_left
     ·intro w'
      go_simp
      with_reducible rfl
     rotate_left
     ·simp only [Act.put,Y14,Y15,Y16]
      rfl
     refine pure_ (i := 9) (N := some 70) (v := ?_) (a' := ?_) (sqB 15 585) rfl rfl (any_of HT_.out (by kernel_rfl)) (fun _ _ _ h => h) (Or.inl ⟨by rfl,?_⟩) ?_ ?_
     rotate_left
     ·intro w'
      go_simp
      with_reducible rfl
     rotate_left
     ·simp only [Act.put,Y14,Y15,Y16]
      rfl
     refine take_ (i := 1) (N := some 62) (v := ?_) (a' := ?_) (sqB 15 587) rfl rfl (take_ofW HT_.out HW_.out (by kernel_rfl)) (fun _ _ _ h => h) (Or.inl ⟨by rfl,?_⟩) hHeld ?_ ?_
     rotate_left
     ·rintro w' ⟨s0,s1,s2,s3⟩
      go_simp
      with_reducible rfl
     rotate_left
     ·simp only [Act.put,Y14,Y15,Y16]
      rfl
     refine take_ (i := 4) (N := some 65) (v := ?_) (a' := ?_) (sqB 15 603) rfl rfl (take_ofW HT_.out HW_.out (by kernel_rfl)) (fun _ _ _ h => h) (Or.inl ⟨by rfl,?_⟩) hHeld ?_ ?_
     rotate_left
     ·rintro w' ⟨s0,s1,s2,s3⟩
      go_simp
      with_reducible rfl
     rotate_left
     ·simp only [Act.put,Y14,Y15,Y16]
      rfl
     refine take_ (i := 7) (N := some 68) (v := ?_) (a' := ?_) (sqB 15 731) rfl rfl (take_ofW HT_.out HW_.out (by kernel_rfl)) (fun _ _ _ h => h) (Or.inl ⟨by rfl,?_⟩) hHeld ?_ ?_
     rotate_left
     ·rintro w' ⟨s0,s1,s2,s3⟩
      go_simp
      with_reducible rfl
     rotate_left
     ·simp only [Act.put,Y14,Y15,Y16]
      rfl
     refine take_ (i := 10) (N := some 71) (v := ?_) (a' := ?_) (sqB 15 1755) rfl rfl (take_ofW HT_.out HW_.out (by kernel_rfl)) (fun _ _ _ h => h) (Or.inl ⟨by rfl,?_⟩) hHeld ?_ ?_
     rotate_left
     ·rintro w' ⟨s0,s1,s2,s3⟩
      go_simp
      with_reducible rfl
     rotate_left
     ·simp only [Act.put,Y14,Y15,Y16]
      rfl
     refine join_ (σ := Value × Value × Value × Value × Nat) 1 #[true,true,true,true,true,true,true,true,true,true,true,true,true,true,false] (fun s_ => [(63,s_.1),(66,s_.2.1),(69,s_.2.2.1),(72,s_.2.2.2.1),(15,.pointer (some ⟨s_.2.2.2.2,0,none⟩)),(73,.agg #[s_.2.1,s_.2.2.2.1])]) (fun s_ w' => (w'.cell? ⟨gb216,0,none⟩ = some (.slice Ao17 t208.length co17) ∧ w'.cell? ⟨gb216,1,none⟩ = some (.slice Ao19 t211.length co19) ∧ w'.cell? ⟨gb225,0,none⟩ = some (.slice Ao22 t217.length co22) ∧ w'.cell? ⟨gb225,1,none⟩ = some (.slice Ao25 t220.length co25)) ∧ (Kd.N k34 34 w' w.heap.size (fun k_ => nB k_ (s_.2.2.2.1) ∧ nB k_ (.slice Ao19 t211.length co19) ∧ nB k_ (.slice Ao25 t220.length co25) ∧ nB k_ (.slice Ao28 t226.length co28) ∧ nB k_ (.slice Ao32 t229.length co32) ∧ k_ ≠ gb216 ∧ k_ ≠ gb225 ∧ k_ ≠ gb234 ∧ k_ ≠ s_.2.2.2.2) s_.2.1 y238) ∧ (Kd.N k68 68 w' w.heap.size (fun k_ => nB k_ (s_.2.1) ∧ nB k_ (.slice Ao17 t208.length co17) ∧ nB k_ (.slice Ao22 t217.length co22) ∧ nB k_ (.slice Ao28 t226.length co28) ∧ nB k_ (.slice Ao32 t229.length co32) ∧ k_ ≠ gb216 ∧ k_ ≠ gb225 ∧ k_ ≠ gb234 ∧ k_ ≠ s_.2.2.2.2) s_.2.2.2.1 y244) ∧ (Kd.N k34 34 w' w.heap.size (fun k_ => nB k_ (s_.2.1) ∧ nB k_ (s_.2.2.2.1) ∧ nB k_ (.slice Ao19 t211.length co19) ∧ nB k_ (.slice Ao22 t217.length co22) ∧ nB k_ (.slice Ao25 t220.length co25) ∧ nB k_ (.slice Ao28 t226.length co28) ∧ nB k_ (.slice Ao32 t229.length co32) ∧ k_ ≠ gb216 ∧ k_ ≠ gb225 ∧ k_ ≠ gb234 ∧ k_ ≠ s_.2.2.2.2) (.slice Ao17 t208.length co17) t208) ∧ (Kd.N k68 68 w' w.heap.size (fun k_ => nB k_ (s_.2.1) ∧ nB k_ (s_.2.2.2.1) ∧ nB k_ (.slice Ao17 t208.length co17) ∧ nB k_ (.slice Ao22 t217.length co22) ∧ nB k_ (.slice Ao25 t220.length co25) ∧ nB k_ (.slice Ao28 t226.length co28) ∧ nB k_ (.slice Ao32 t229.length co32) ∧ k_ ≠ gb216 ∧ k_ ≠ gb225 ∧ k_ ≠ gb234 ∧ k_ ≠ s_.2.2.2.2) (.slice Ao19 t211.length co19) t211) ∧ (Kd.N k34 34 w' w.heap.size (fun k_ => nB k_ (s_.2.1) ∧ nB k_ (s_.2.2.2.1) ∧ nB k_ (.slice Ao17 t208.length co17) ∧ nB k_ (.slice Ao19 t211.length co19) ∧ nB k_ (.slice Ao25 t220.length co25) ∧ nB k_ (.slice Ao28 t226.length co28) ∧ nB k_ (.slice Ao32 t229.length co32) ∧ k_ ≠ gb216 ∧ k_ ≠ gb225 ∧ k_ ≠ gb234 ∧ k_ ≠ s_.2.2.2.2) (.slice Ao22 t217.length co22) t217) ∧ (Kd.N k68 68 w' w.heap.size (fun k_ => nB k_ (s_.2.1) ∧ nB k_ (s_.2.2.2.1) ∧ nB k_ (.slice Ao17 t208.length co17) ∧ nB k_ (.slice Ao19 t211.length co19) ∧ nB k_ (.slice Ao22 t217.length co22) ∧ nB k_ (.slice Ao28 t226.length co28) ∧ nB k_ (.slice Ao32 t229.length co32) ∧ k_ ≠ gb216 ∧ k_ ≠ gb225 ∧ k_ ≠ gb234 ∧ k_ ≠ s_.2.2.2.2) (.slice Ao25 t220.length co25) t220) ∧ (Kd.N k34 34 w' w.heap.size (fun k_ => nB k_ (s_.2.1) ∧ nB k_ (s_.2.2.2.1) ∧ nB k_ (.slice Ao17 t208.length co17) ∧ nB k_ (.slice Ao19 t211.length co19) ∧ nB k_ (.slice Ao22 t217.length co22) ∧ nB k_ (.slice Ao25 t220.length co25) ∧ nB k_ (.slice Ao32 t229.length co32) ∧ k_ ≠ gb216 ∧ k_ ≠ gb225 ∧ k_ ≠ gb234 ∧ k_ ≠ s_.2.2.2.2) (.slice Ao28 t226.length co28) t226) ∧ (Kd.N k68 68 w' w.heap.size (fun k_ => nB k_ (s_.2.1) ∧ nB k_ (s_.2.2.2.1) ∧ nB k_ (.slice Ao17 t208.length co17) ∧ nB k_ (.slice Ao19 t211.length co19) ∧ nB k_ (.slice Ao22 t217.length co22) ∧ nB k_ (.slice Ao25 t220.length co25) ∧ nB k_ (.slice Ao28 t226.length co28) ∧ k_ ≠ gb216 ∧ k_ ≠ gb225 ∧ k_ ≠ gb234 ∧ k_ ≠ s_.2.2.2.2) (.slice Ao32 t229.length co32) t229) ∧ (w'.heap[gb216]? = some (.cells #[.slice Ao17 t208.length co17,.slice Ao19 t211.length co19] 26 (0,0))) ∧ (w'.heap[gb225]? = some (.cells #[.slice Ao22 t217.length co22,.slice Ao25 t220.length co25] 26 (0,0))) ∧ (w'.heap[gb234]? = some (.cells #[.slice Ao28 t226.length co28,.slice Ao32 t229.length co32] 26 (0,0))) ∧ (w'.heap[s_.2.2.2.2]? = some (.cells #[.slice none 0 0,.slice none 0 0] 26 (0,0))) ∧ (w.heap.size ≤ s_.2.2.2.2) ∧ (w.heap.size ≤ s_.2.2.2.2) ∧ (gb216 ≠ s_.2.2.2.2) ∧ (s_.2.2.2.2 ≠ gb216) ∧ (gb225 ≠ s_.2.2.2.2) ∧ (s_.2.2.2.2 ≠ gb225) ∧ (gb234 ≠ s_.2.2.2.2) ∧ (s_.2.2.2.2 ≠ gb234) ∧ (Below w.heap.size w w')) ?_ ?_
     rotate_left
     ·intro hJ2_5_8_11_13
      refine join_ (σ := Value × Value × Value × Value) 2 #[true,true,true,true,true,true,true,true,true,true,true,true,true,false,false] (fun s_ => [(63,s_.1),(66,s_.2.1),(69,s_.2.2.1),(72,s_.2.2.2),(73,.agg #[s_.2.1,s_.2.2.2])]) (fun s_ w' => (w'.cell? ⟨gb216,0,none⟩ = some (.slice Ao17 t208.length co17) ∧ w'.cell? ⟨gb216,1,none⟩ = some (.slice Ao19 t211.length co19) ∧ w'.cell? ⟨gb225,0,none⟩ = some (.slice Ao22 t217.length co22) ∧ w'.cell? ⟨gb225,1,none⟩ = some (.slice Ao25 t220.length co25)) ∧ (Kd.N k34 34 w' w.heap.size (fun k_ => nB k_ (s_.2.2.2) ∧ nB k_ (.slice Ao19 t211.length co19) ∧ nB k_ (.slice Ao25 t220.length co25) ∧ nB k_ (.slice Ao28 t226.length co28) ∧ nB k_ (.slice Ao32 t229.length co32) ∧ k_ ≠ gb216 ∧ k_ ≠ gb225 ∧ k_ ≠ gb234) s_.2.1 y238) ∧ (Kd.N k68 68 w' w.heap.size (fun k_ => nB k_ (s_.2.1) ∧ nB k_ (.slice Ao17 t208.length co17) ∧ nB k_ (.slice Ao22 t217.length co22) ∧ nB k_ (.slice Ao28 t226.length co28) ∧ nB k_ (.slice Ao32 t229.length co32) ∧ k_ ≠ gb216 ∧ k_ ≠ gb225 ∧ k_ ≠ gb234) s_.2.2.2 y244) ∧ (Kd.N k34 34 w' w.heap.size (fun k_ => nB k_ (s_.2.1) ∧ nB k_ (s_.2.2.2) ∧ nB k_ (.slice Ao19 t211.length co19) ∧ nB k_ (.slice Ao22 t217.length co22) ∧ nB k_ (.slice Ao25 t220.length co25) ∧ nB k_ (.slice Ao28 t226.length co28) ∧ nB k_ (.slice Ao32 t229.length co32) ∧ k_ ≠ gb216 ∧ k_ ≠ gb225 ∧ k_ ≠ gb234) (.slice Ao17 t208.length co17) t208) ∧ (Kd.N k68 68 w' w.heap.size (fun k_ => nB k_ (s_.2.1) ∧ nB k_ (s_.2.2.2) ∧ nB k_ (.slice Ao17 t208.length co17) ∧ nB k_ (.slice Ao22 t217.length co22) ∧ nB k_ (.slice Ao25 t220.length co25) ∧ nB k_ (.slice Ao28 t226.length co28) ∧ nB k_ (.slice Ao32 t229.length co32) ∧ k_ ≠ gb216 ∧ k_ ≠ gb225 ∧ k_ ≠ gb234) (.slice Ao19 t211.length co19) t211) ∧ (Kd.N k34 34 w' w.heap.size (fun k_ => nB k_ (s_.2.1) ∧ nB k_ (s_.2.2.2) ∧ nB k_ (.slice Ao17 t208.length co17) ∧ nB k_ (.slice Ao19 t211.length co19) ∧ nB k_ (.slice Ao25 t220.length co25) ∧ nB k_ (.slice Ao28 t226.length co28) ∧ nB k_ (.slice Ao32 t229.length co32) ∧ k_ ≠ gb216 ∧ k_ ≠ gb225 ∧ k_ ≠ gb234) (.slice Ao22 t217.length co22) t217) ∧ (Kd.N k68 68 w' w.heap.size (fun k_ => nB k_ (s_.2.1) ∧ nB k_ (s_.2.2.2) ∧ nB k_ (.slice Ao17 t208.length co17) ∧ nB k_ (.slice Ao19 t211.length co19) ∧ nB k_ (.slice Ao22 t217.length co22) ∧ nB k_ (.slice Ao28 t226.length co28) ∧ nB k_ (.slice Ao32 t229.length co32) ∧ k_ ≠ gb216 ∧ k_ ≠ gb225 ∧ k_ ≠ gb234) (.slice Ao25 t220.length co25) t220) ∧ (Kd.N k34 34 w' w.heap.size (fun k_ => nB k_ (s_.2.1) ∧ nB k_ (s_.2.2.2) ∧ nB k_ (.slice Ao17 t208.length co17) ∧ nB k_ (.slice Ao19 t211.length co19) ∧ nB k_ (.slice Ao22 t217.length co22) ∧ nB k_ (.slice Ao25 t220.length co25) ∧ nB k_ (.slice Ao32 t229.length co32) ∧ k_ ≠ gb216 ∧ k_ ≠ gb225 ∧ k_ ≠ gb234) (.slice Ao28 t226.length co28) t226) ∧ (Kd.N k68 68 w' w.heap.size (fun k_ => nB k_ (s_.2.1) ∧ nB k_ (s_.2.2.2) ∧ nB k_ (.slice Ao17 t208.length co17) ∧ nB k_ (.slice Ao19 t211.length co19) ∧ nB k_ (.slice Ao22 t217.length co22) ∧ nB k_ (.slice Ao25 t220.length co25) ∧ nB k_ (.slice Ao28 t226.length co28) ∧ k_ ≠ gb216 ∧ k_ ≠ gb225 ∧ k_ ≠ gb234) (.slice Ao32 t229.length co32) t229) ∧ (w'.heap[gb216]? = some (.cells #[.slice Ao17 t208.length co17,.slice Ao19 t211.length co19] 26 (0,0))) ∧ (w'.heap[gb225]? = some (.cells #[.slice Ao22 t217.length co22,.slice Ao25 t220.length co25] 26 (0,0))) ∧ (w'.heap[gb234]? = some (.cells #[.slice Ao28 t226.length co28,.slice Ao32 t229.length co32] 26 (0,0))) ∧ (Below w.heap.size w w')) ?_ ?_
      rotate_left
      ·intro hJ2_5_8_11
       refine join_ (σ := Value × Value × Value × Nat) 3 #[true,true,true,true,true,true,true,true,true,true,true,false,false,true,false] (fun s_ => [(63,s_.1),(66,s_.2.1),(69,s_.2.2.1),(15,.pointer (some ⟨s_.2.2.2,0,none⟩))]) (fun s_ w' => (w'.cell? ⟨gb216,0,none⟩ = some (.slice Ao17 t208.length co17) ∧ w'.cell? ⟨gb216,1,none⟩ = some (.slice Ao19 t211.length co19) ∧ w'.cell? ⟨gb225,0,none⟩ = some (.slice Ao22 t217.length co22) ∧ w'.cell? ⟨gb225,1,none⟩ = some (.slice Ao25 t220.length co25)) ∧ (Kd.N k34 34 w' w.heap.size (fun k_ => nB k_ (s_.2.2.1) ∧ nB k_ (.slice Ao19 t211.length co19) ∧ nB k_ (.slice Ao25 t220.length co25) ∧ nB k_ (.slice Ao28 t226.length co28) ∧ nB k_ (.slice Ao32 t229.length co32) ∧ k_ ≠ gb216 ∧ k_ ≠ gb225 ∧ k_ ≠ gb234 ∧ k_ ≠ s_.2.2.2) s_.2.1 y238) ∧ (Kd.N k68 68 w' w.heap.size (fun k_ => nB k_ (s_.2.1) ∧ nB k_ (.slice Ao17 t208.length co17) ∧ nB k_ (.slice Ao22 t217.length co22) ∧ nB k_ (.slice Ao25 t220.length co25) ∧ nB k_ (.slice Ao28 t226.length co28) ∧ nB k_ (.slice Ao32 t229.length co32) ∧ k_ ≠ gb216 ∧ k_ ≠ gb225 ∧ k_ ≠ gb234 ∧ k_ ≠ s_.2.2.2) s_.2.2.1 y241) ∧ (Kd.N k34 34 w' w.heap.size (fun k_ => nB k_ (s_.2.1) ∧ nB k_ (s_.2.2.1) ∧ nB k_ (.slice Ao19 t211.length co19) ∧ nB k_ (.slice Ao22 t217.length co22) ∧ nB k_ (.slice Ao25 t220.length co25) ∧ nB k_ (.slice Ao28 t226.length co28) ∧ nB k_ (.slice Ao32 t229.length co32) ∧ k_ ≠ gb216 ∧ k_ ≠ gb225 ∧ k_ ≠ gb234 ∧ k_ ≠ s_.2.2.2) (.slice Ao17 t208.length co17) t208) ∧ (Kd.N k68 68 w' w.heap.size (fun k_ => nB k_ (s_.2.1) ∧ nB k_ (s_.2.2.1) ∧ nB k_ (.slice Ao17 t208.length co17) ∧ nB k_ (.slice Ao22 t217.length co22) ∧ nB k_ (.slice Ao25 t220.length co25) ∧ nB k_ (.slice Ao28 t226.length co28) ∧ nB k_ (.slice Ao32 t229.length co32) ∧ k_ ≠ gb216 ∧ k_ ≠ gb225 ∧ k_ ≠ gb234 ∧ k_ ≠ s_.2.2.2) (.slice Ao19 t211.length co19) t211) ∧ (Kd.N k34 34 w' w.heap.size (fun k_ => nB k_ (s_.2.1) ∧ nB k_ (s_.2.2.1) ∧ nB k_ (.slice Ao17 t208.length co17) ∧ nB k_ (.slice Ao19 t211.length co19) ∧ nB k_ (.slice Ao25 t220.length co25) ∧ nB k_ (.slice Ao28 t226.length co28) ∧ nB k_ (.slice Ao32 t229.length co32) ∧ k_ ≠ gb216 ∧ k_ ≠ gb225 ∧ k_ ≠ gb234 ∧ k_ ≠ s_.2.2.2) (.slice Ao22 t217.length co22) t217) ∧ (Kd.N k68 68 w' w.heap.size (fun k_ => nB k_ (s_.2.1) ∧ nB k_ (s_.2.2.1) ∧ nB k_ (.slice Ao17 t208.length co17) ∧ nB k_ (.slice Ao19 t211.length co19) ∧ nB k_ (.slice Ao22 t217.length co22) ∧ nB k_ (.slice Ao28 t226.length co28) ∧ nB k_ (.slice Ao32 t229.length co32) ∧ k_ ≠ gb216 ∧ k_ ≠ gb225 ∧ k_ ≠ gb234 ∧ k_ ≠ s_.2.2.2) (.slice Ao25 t220.length co25) t220) ∧ (Kd.N k34 34 w' w.heap.size (fun k_ => nB k_ (s_.2.1) ∧ nB k_ (s_.2.2.1) ∧ nB k_ (.slice Ao17 t208.length co17) ∧ nB k_ (.slice Ao19 t211.length co19) ∧ nB k_ (.slice Ao22 t217.length co22) ∧ nB k_ (.slice Ao25 t220.length co25) ∧ nB k_ (.slice Ao32 t229.length co32) ∧ k_ ≠ gb216 ∧ k_ ≠ gb225 ∧ k_ ≠ gb234 ∧ k_ ≠ s_.2.2.2) (.slice Ao28 t226.length co28) t226) ∧ (Kd.N k68 68 w' w.heap.size (fun k_ => nB k_ (s_.2.1) ∧ nB k_ (s_.2.2.1) ∧ nB k_ (.slice Ao17 t208.length co17) ∧ nB k_ (.slice Ao19 t211.length co19) ∧ nB k_ (.slice Ao22 t217.length co22) ∧ nB k_ (.slice Ao25 t220.length co25) ∧ nB k_ (.slice Ao28 t226.length co28) ∧ k_ ≠ gb216 ∧ k_ ≠ gb225 ∧ k_ ≠ gb234 ∧ k_ ≠ s_.2.2.2) (.slice Ao32 t229.length co32) t229) ∧ (w'.heap[gb216]? = some (.cells #[.slice Ao17 t208.length co17,.slice Ao19 t211.length co19] 26 (0,0))) ∧ (w'.heap[gb225]? = some (.cells #[.slice Ao22 t217.length co22,.slice Ao25 t220.length co25] 26 (0,0))) ∧ (w'.heap[gb234]? = some (.cells #[.slice Ao28 t226.length co28,.slice Ao32 t229.length co32] 26 (0,0))) ∧ (w'.heap[s_.2.2.2]? = some (.cells #[.slice none 0 0,.slice none 0 0] 26 (0,0))) ∧ (w.heap.size ≤ s_.2.2.2) ∧ (w.heap.size ≤ s_.2.2.2) ∧ (gb216 ≠ s_.2.2.2) ∧ (s_.2.2.2 ≠ gb216) ∧ (gb225 ≠ s_.2.2.2) ∧ (s_.2.2.2 ≠ gb225) ∧ (gb234 ≠ s_.2.2.2) ∧ (s_.2.2.2 ≠ gb234) ∧ (Below w.heap.size w w')) ?_ ?_
       rotate_left
       ·intro hJ2_5_8_13
        refine join_ (σ := Value × Value × Value) 4 #[true,true,true,true,true,true,true,true,true,true,true,false,false,false,false] (fun s_ => [(63,s_.1),(66,s_.2.1),(69,s_.2.2)]) (fun s_ w' => (w'.cell? ⟨gb216,0,none⟩ = some (.slice Ao17 t208.length co17) ∧ w'.cell? ⟨gb216,1,none⟩ = some (.slice Ao19 t211.length co19) ∧ w'.cell? ⟨gb225,0,none⟩ = some (.slice Ao22 t217.length co22) ∧ w'.cell? ⟨gb225,1,none⟩ = some (.slice Ao25 t220.length co25)) ∧ (Kd.N k34 34 w' w.heap.size (fun k_ => nB k_ (s_.2.2) ∧ nB k_ (.slice Ao19 t211.length co19) ∧ nB k_ (.slice Ao25 t220.length co25) ∧ nB k_ (.slice Ao28 t226.length co28) ∧ nB k_ (.slice Ao32 t229.length co32) ∧ k_ ≠ gb216 ∧ k_ ≠ gb225 ∧ k_ ≠ gb234) s_.2.1 y238) ∧ (Kd.N k68 68 w' w.heap.size (fun k_ => nB k_ (s_.2.1) ∧ nB k_ (.slice Ao17 t208.length co17) ∧ nB k_ (.slice Ao22 t217.length co22) ∧ nB k_ (.slice Ao25 t220.length co25) ∧ nB k_ (.slice Ao28 t226.length co28) ∧ nB k_ (.slice Ao32 t229.length co32) ∧ k_ ≠ gb216 ∧ k_ ≠ gb225 ∧ k_ ≠ gb234) s_.2.2 y241) ∧ (Kd.N k34 34 w' w.heap.size (fun k_ => nB k_ (s_.2.1) ∧ nB k_ (s_.2.2) ∧ nB k_ (.slice Ao19 t211.length co19) ∧ nB k_ (.slice Ao22 t217.length co22) ∧ nB k_ (.slice Ao25 t220.length co25) ∧ nB k_ (.slice Ao28 t226.length co28) ∧ nB k_ (.slice Ao32 t229.length co32) ∧ k_ ≠ gb216 ∧ k_ ≠ gb225 ∧ k_ ≠ gb234) (.slice Ao17 t208.length co17) t208) ∧ (Kd.N k68 68 w' w.heap.size (fun k_ => nB k_ (s_.2.1) ∧ nB k_ (s_.2.2) ∧ nB k_ (.slice Ao17 t208.length co17) ∧ nB k_ (.slice Ao22 t217.length co22) ∧ nB k_ (.slice Ao25 t220.length co25) ∧ nB k_ (.slice Ao28 t226.length co28) ∧ nB k_ (.slice Ao32 t229.length co32) ∧ k_ ≠ gb216 ∧ k_ ≠ gb225 ∧ k_ ≠ gb234) (.slice Ao19 t211.length co19) t211) ∧ (Kd.N k34 34 w' w.heap.size (fun k_ => nB k_ (s_.2.1) ∧ nB k_ (s_.2.2) ∧ nB k_ (.slice Ao17 t208.length co17) ∧ nB k_ (.slice Ao19 t211.length co19) ∧ nB k_ (.slice Ao25 t220.length co25) ∧ nB k_ (.slice Ao28 t226.length co28) ∧ nB k_ (.slice Ao32 t229.length co32) ∧ k_ ≠ gb216 ∧ k_ ≠ gb225 ∧ k_ ≠ gb234) (.slice Ao22 t217.length co22) t217) ∧ (Kd.N k68 68 w' w.heap.size (fun k_ => nB k_ (s_.2.1) ∧ nB k_ (s_.2.2) ∧ nB k_ (.slice Ao17 t208.length co17) ∧ nB k_ (.slice Ao19 t211.length co19) ∧ nB k_ (.slice Ao22 t217.length co22) ∧ nB k_ (.slice Ao28 t226.length co28) ∧ nB k_ (.slice Ao32 t229.length co32) ∧ k_ ≠ gb216 ∧ k_ ≠ gb225 ∧ k_ ≠ gb234) (.slice Ao25 t220.length co25) t220) ∧ (Kd.N k34 34 w' w.heap.size (fun k_ => nB k_ (s_.2.1) ∧ nB k_ (s_.2.2) ∧ nB k_ (.slice Ao17 t208.length co17) ∧ nB k_ (.slice Ao19 t211.length co19) ∧ nB k_ (.slice Ao22 t217.length co22) ∧ nB k_ (.slice Ao25 t220.length co25) ∧ nB k_ (.slice Ao32 t229.length co32) ∧ k_ ≠ gb216 ∧ k_ ≠ gb225 ∧ k_ ≠ gb234) (.slice Ao28 t226.length co28) t226) ∧ (Kd.N k68 68 w' w.heap.size (fun k_ => nB k_ (s_.2.1) ∧ nB k_ (s_.2.2) ∧ nB k_ (.slice Ao17 t208.length co17) ∧ nB k_ (.slice Ao19 t211.length co19) ∧ nB k_ (.slice Ao22 t217.length co22) ∧ nB k_ (.slice Ao25 t220.length co25) ∧ nB k_ (.slice Ao28 t226.length co28) ∧ k_ ≠ gb216 ∧ k_ ≠ gb225 ∧ k_ ≠ gb234) (.slice Ao32 t229.length co32) t229) ∧ (w'.heap[gb216]? = some (.cells #[.slice Ao17 t208.length co17,.slice Ao19 t211.length co19] 26 (0,0))) ∧ (w'.heap[gb225]? = some (.cells #[.slice Ao22 t217.length co22,.slice Ao25 t220.length co25] 26 (0,0))) ∧ (w'.heap[gb234]? = some (.cells #[.slice Ao28 t226.length co28,.slice Ao32 t229.length co32] 26 (0,0))) ∧ (Below w.heap.size w w')) ?_ ?_
        rotate_left
        ·intro hJ2_5_8
         refine join_ (σ := Value × Value × Nat) 4 #[true,true,true,true,true,true,true,true,false,true,true,false,false,true,false] (fun s_ => [(63,s_.1),(66,s_.2.1),(15,.pointer (some ⟨s_.2.2,0,none⟩))]) (fun s_ w' => (w'.cell? ⟨gb216,0,none⟩ = some (.slice Ao17 t208.length co17) ∧ w'.cell? ⟨gb216,1,none⟩ = some (.slice Ao19 t211.length co19) ∧ w'.cell? ⟨gb225,0,none⟩ = some (.slice Ao22 t217.length co22) ∧ w'.cell? ⟨gb225,1,none⟩ = some (.slice Ao25 t220.length co25)) ∧ (Kd.N k34 34 w' w.heap.size (fun k_ => nB k_ (.slice Ao19 t211.length co19) ∧ nB k_ (.slice Ao25 t220.length co25) ∧ nB k_ (.slice Ao28 t226.length co28) ∧ nB k_ (.slice Ao32 t229.length co32) ∧ k_ ≠ gb216 ∧ k_ ≠ gb225 ∧ k_ ≠ gb234 ∧ k_ ≠ s_.2.2) s_.2.1 y238) ∧ (Kd.N k34 34 w' w.heap.size (fun k_ => nB k_ (s_.2.1) ∧ nB k_ (.slice Ao19 t211.length co19) ∧ nB k_ (.slice Ao22 t217.length co22) ∧ nB k_ (.slice Ao25 t220.length co25) ∧ nB k_ (.slice Ao28 t226.length co28) ∧ nB k_ (.slice Ao32 t229.length co32) ∧ k_ ≠ gb216 ∧ k_ ≠ gb225 ∧ k_ ≠ gb234 ∧ k_ ≠ s_.2.2) (.slice Ao17 t208.length co17) t208) ∧ (Kd.N k68 68 w' w.heap.size (fun k_ => nB k_ (s_.2.1) ∧ nB k_ (.slice Ao17 t208.length co17) ∧ nB k_ (.slice Ao22 t217.length co22) ∧ nB k_ (.slice Ao25 t220.length co25) ∧ nB k_ (.slice Ao28 t226.length co28) ∧ nB k_ (.slice Ao32 t229.length co32) ∧ k_ ≠ gb216 ∧ k_ ≠ gb225 ∧ k_ ≠ gb234 ∧ k_ ≠ s_.2.2) (.slice Ao19 t211.length co19) t211) ∧ (Kd.N k34 34 w' w.heap.size (fun k_ => nB k_ (s_.2.1) ∧ nB k_ (.slice Ao17 t208.length co17) ∧ nB k_ (.slice Ao19 t211.length co19) ∧ nB k_ (.slice Ao25 t220.length co25) ∧ nB k_ (.slice Ao28 t226.length co28) ∧ nB k_ (.slice Ao32 t229.length co32) ∧ k_ ≠ gb216 ∧ k_ ≠ gb225 ∧ k_ ≠ gb234 ∧ k_ ≠ s_.2.2) (.slice Ao22 t217.length co22) t217) ∧ (Kd.N k68 68 w' w.heap.size (fun k_ => nB k_ (s_.2.1) ∧ nB k_ (.slice Ao17 t208.length co17) ∧ nB k_ (.slice Ao19 t211.length co19) ∧ nB k_ (.slice Ao22 t217.length co22) ∧ nB k_ (.slice Ao28 t226.length co28) ∧ nB k_ (.slice Ao32 t229.length co32) ∧ k_ ≠ gb216 ∧ k_ ≠ gb225 ∧ k_ ≠ gb234 ∧ k_ ≠ s_.2.2) (.slice Ao25 t220.length co25) t220) ∧ (Kd.N k34 34 w' w.heap.size (fun k_ => nB k_ (s_.2.1) ∧ nB k_ (.slice Ao17 t208.length co17) ∧ nB k_ (.slice Ao19 t211.length co19) ∧ nB k_ (.slice Ao22 t217.length co22) ∧ nB k_ (.slice Ao25 t220.length co25) ∧ nB k_ (.slice Ao32 t229.length co32) ∧ k_ ≠ gb216 ∧ k_ ≠ gb225 ∧ k_ ≠ gb234 ∧ k_ ≠ s_.2.2) (.slice Ao28 t226.length co28) t226) ∧ (Kd.N k68 68 w' w.heap.size (fun k_ => nB k_ (s_.2.1) ∧ nB k_ (.slice Ao17 t208.length co17) ∧ nB k_ (.slice Ao19 t211.length co19) ∧ nB k_ (.slice Ao22 t217.length co22) ∧ nB k_ (.slice Ao25 t220.length co25) ∧ nB k_ (.slice Ao28 t226.length co28) ∧ k_ ≠ gb216 ∧ k_ ≠ gb225 ∧ k_ ≠ gb234 ∧ k_ ≠ s_.2.2) (.slice Ao32 t229.length co32) t229) ∧ (w'.heap[gb216]? = some (.cells #[.slice Ao17 t208.length co17,.slice Ao19 t211.length co19] 26 (0,0))) ∧ (w'.heap[gb225]? = some (.cells #[.slice Ao22 t217.length co22,.slice Ao25 t220.length co25] 26 (0,0))) ∧ (w'.heap[gb234]? = some (.cells #[.slice Ao28 t226.length co28,.slice Ao32 t229.length co32] 26 (0,0))) ∧ (w'.heap[s_.2.2]? = some (.cells #[.slice none 0 0,.slice none 0 0] 26 (0,0))) ∧ (w.heap.size ≤ s_.2.2) ∧ (w.heap.size ≤ s_.2.2) ∧ (gb216 ≠ s_.2.2) ∧ (s_.2.2 ≠ gb216) ∧ (gb225 ≠ s_.2.2) ∧ (s_.2.2 ≠ gb225) ∧ (gb234 ≠ s_.2.2) ∧ (s_.2.2 ≠ gb234) ∧ (Below w.heap.size w w')) ?_ ?_
         rotate_left
         ·intro hJ2_5_13
          refine join_ (σ := Value × Value) 5 #[true,true,true,true,true,true,true,true,false,true,true,false,false,false,false] (fun s_ => [(63,s_.1),(66,s_.2)]) (fun s_ w' => (w'.cell? ⟨gb216,0,none⟩ = some (.slice Ao17 t208.length co17) ∧ w'.cell? ⟨gb216,1,none⟩ = some (.slice Ao19 t211.length co19) ∧ w'.cell? ⟨gb225,0,none⟩ = some (.slice Ao22 t217.length co22) ∧ w'.cell? ⟨gb225,1,none⟩ = some (.slice Ao25 t220.length co25)) ∧ (Kd.N k34 34 w' w.heap.size (fun k_ => nB k_ (.slice Ao19 t211.length co19) ∧ nB k_ (.slice Ao25 t220.length co25) ∧ nB k_ (.slice Ao28 t226.length co28) ∧ nB k_ (.slice Ao32 t229.length co32) ∧ k_ ≠ gb216 ∧ k_ ≠ gb225 ∧ k_ ≠ gb234) s_.2 y238) ∧ (Kd.N k34 34 w' w.heap.size (fun k_ => nB k_ (s_.2) ∧ nB k_ (.slice Ao19 t211.length co19) ∧ nB k_ (.slice Ao22 t217.length co22) ∧ nB k_ (.slice Ao25 t220.length co25) ∧ nB k_ (.slice Ao28 t226.length co28) ∧ nB k_ (.slice Ao32 t229.length co32) ∧ k_ ≠ gb216 ∧ k_ ≠ gb225 ∧ k_ ≠ gb234) (.slice Ao17 t208.length co17) t208) ∧ (Kd.N k68 68 w' w.heap.size (fun k_ => nB k_ (s_.2) ∧ nB k_ (.slice Ao17 t208.length co17) ∧ nB k_ (.slice Ao22 t217.length co22) ∧ nB k_ (.slice Ao25 t220.length co25) ∧ nB k_ (.slice Ao28 t226.length co28) ∧ nB k_ (.slice Ao32 t229.length co32) ∧ k_ ≠ gb216 ∧ k_ ≠ gb225 ∧ k_ ≠ gb234) (.slice Ao19 t211.length co19) t211) ∧ (Kd.N k34 34 w' w.heap.size (fun k_ => nB k_ (s_.2) ∧ nB k_ (.slice Ao17 t208.length co17) ∧ nB k_ (.slice Ao19 t211.length co19) ∧ nB k_ (.slice Ao25 t220.length co25) ∧ nB k_ (.slice Ao28 t226.length co28) ∧ nB k_ (.slice Ao32 t229.length co32) ∧ k_ ≠ gb216 ∧ k_ ≠ gb225 ∧ k_ ≠ gb234) (.slice Ao22 t217.length co22) t217) ∧ (Kd.N k68 68 w' w.heap.size (fun k_ => nB k_ (s_.2) ∧ nB k_ (.slice Ao17 t208.length co17) ∧ nB k_ (.slice Ao19 t211.length co19) ∧ nB k_ (.slice Ao22 t217.length co22) ∧ nB k_ (.slice Ao28 t226.length co28) ∧ nB k_ (.slice Ao32 t229.length co32) ∧ k_ ≠ gb216 ∧ k_ ≠ gb225 ∧ k_ ≠ gb234) (.slice Ao25 t220.length co25) t220) ∧ (Kd.N k34 34 w' w.heap.size (fun k_ => nB k_ (s_.2) ∧ nB k_ (.slice Ao17 t208.length co17) ∧ nB k_ (.slice Ao19 t211.length co19) ∧ nB k_ (.slice Ao22 t217.length co22) ∧ nB k_ (.slice Ao25 t220.length co25) ∧ nB k_ (.slice Ao32 t229.length co32) ∧ k_ ≠ gb216 ∧ k_ ≠ gb225 ∧ k_ ≠ gb234) (.slice Ao28 t226.length co28) t226) ∧ (Kd.N k68 68 w' w.heap.size (fun k_ => nB k_ (s_.2) ∧ nB k_ (.slice Ao17 t208.length co17) ∧ nB k_ (.slice Ao19 t211.length co19) ∧ nB k_ (.slice Ao22 t217.length co22) ∧ nB k_ (.slice Ao25 t220.length co25) ∧ nB k_ (.slice Ao28 t226.length co28) ∧ k_ ≠ gb216 ∧ k_ ≠ gb225 ∧ k_ ≠ gb234) (.slice Ao32 t229.length co32) t229) ∧ (w'.heap[gb216]? = some (.cells #[.slice Ao17 t208.length co17,.slice Ao19 t211.length co19] 26 (0,0))) ∧ (w'.heap[gb225]? = some (.cells #[.slice Ao22 t217.length co22,.slice Ao25 t220.length co25] 26 (0,0))) ∧ (w'.heap[gb234]? = some (.cells #[.slice Ao28 t226.length co28,.slice Ao32 t229.length co32] 26 (0,0))) ∧ (Below w.heap.size w w')) ?_ ?_
          rotate_left
          ·intro hJ2_5
           refine join_ (σ := Value × Nat) 5 #[true,true,true,true,true,false,true,true,false,true,true,false,false,true,false] (fun s_ => [(63,s_.1),(15,.pointer (some ⟨s_.2,0,none⟩))]) (fun s_ w' => (w'.cell? ⟨gb216,0,none⟩ = some (.slice Ao17 t208.length co17) ∧ w'.cell? ⟨gb216,1,none⟩ = some (.slice Ao19 t211.length co19) ∧ w'.cell? ⟨gb225,0,none⟩ = some (.slice Ao22 t217.length co22) ∧ w'.cell? ⟨gb225,1,none⟩ = some (.slice Ao25 t220.length co25)) ∧ (Kd.N k34 34 w' w.heap.size (fun k_ => nB k_ (.slice Ao19 t211.length co19) ∧ nB k_ (.slice Ao22 t217.length co22) ∧ nB k_ (.slice Ao25 t220.length co25) ∧ nB k_ (.slice Ao28 t226.length co28) ∧ nB k_ (.slice Ao32 t229.length co32) ∧ k_ ≠ gb216 ∧ k_ ≠ gb225 ∧ k_ ≠ gb234 ∧ k_ ≠ s_.2) s_.1 y235) ∧ (Kd.N k34 34 w' w.heap.size (fun k_ => nB k_ (s_.1) ∧ nB k_ (.slice Ao19 t211.length co19) ∧ nB k_ (.slice Ao22 t217.length co22) ∧ nB k_ (.slice Ao25 t220.length co25) ∧ nB k_ (.slice Ao28 t226.length co28) ∧ nB k_ (.slice Ao32 t229.length co32) ∧ k_ ≠ gb216 ∧ k_ ≠ gb225 ∧ k_ ≠ gb234 ∧ k_ ≠ s_.2) (.slice Ao17 t208.length co17) t208) ∧ (Kd.N k68 68 w' w.heap.size (fun k_ => nB k_ (s_.1) ∧ nB k_ (.slice Ao17 t208.length co17) ∧ nB k_ (.slice Ao22 t217.length co22) ∧ nB k_ (.slice Ao25 t220.length co25) ∧ nB k_ (.slice Ao28 t226.length co28) ∧ nB k_ (.slice Ao32 t229.length co32) ∧ k_ ≠ gb216 ∧ k_ ≠ gb225 ∧ k_ ≠ gb234 ∧ k_ ≠ s_.2) (.slice Ao19 t211.length co19) t211) ∧ (Kd.N k34 34 w' w.heap.size (fun k_ => nB k_ (s_.1) ∧ nB k_ (.slice Ao17 t208.length co17) ∧ nB k_ (.slice Ao19 t211.length co19) ∧ nB k_ (.slice Ao25 t220.length co25) ∧ nB k_ (.slice Ao28 t226.length co28) ∧ nB k_ (.slice Ao32 t229.length co32) ∧ k_ ≠ gb216 ∧ k_ ≠ gb225 ∧ k_ ≠ gb234 ∧ k_ ≠ s_.2) (.slice Ao22 t217.length co22) t217) ∧ (Kd.N k68 68 w' w.heap.size (fun k_ => nB k_ (s_.1) ∧ nB k_ (.slice Ao17 t208.length co17) ∧ nB k_ (.slice Ao19 t211.length co19) ∧ nB k_ (.slice Ao22 t217.length co22) ∧ nB k_ (.slice Ao28 t226.length co28) ∧ nB k_ (.slice Ao32 t229.length co32) ∧ k_ ≠ gb216 ∧ k_ ≠ gb225 ∧ k_ ≠ gb234 ∧ k_ ≠ s_.2) (.slice Ao25 t220.length co25) t220) ∧ (Kd.N k34 34 w' w.heap.size (fun k_ => nB k_ (s_.1) ∧ nB k_ (.slice Ao17 t208.length co17) ∧ nB k_ (.slice Ao19 t211.length co19) ∧ nB k_ (.slice Ao22 t217.length co22) ∧ nB k_ (.slice Ao25 t220.length co25) ∧ nB k_ (.slice Ao32 t229.length co32) ∧ k_ ≠ gb216 ∧ k_ ≠ gb225 ∧ k_ ≠ gb234 ∧ k_ ≠ s_.2) (.slice Ao28 t226.length co28) t226) ∧ (Kd.N k68 68 w' w.heap.size (fun k_ => nB k_ (s_.1) ∧ nB k_ (.slice Ao17 t208.length co17) ∧ nB k_ (.slice Ao19 t211.length co19) ∧ nB k_ (.slice Ao22 t217.length co22) ∧ nB k_ (.slice Ao25 t220.length co25) ∧ nB k_ (.slice Ao28 t226.length co28) ∧ k_ ≠ gb216 ∧ k_ ≠ gb225 ∧ k_ ≠ gb234 ∧ k_ ≠ s_.2) (.slice Ao32 t229.length co32) t229) ∧ (w'.heap[gb216]? = some (.cells #[.slice Ao17 t208.length co17,.slice Ao19 t211.length co19] 26 (0,0))) ∧ (w'.heap[gb225]? = some (.cells #[.slice Ao22 t217.length co22,.slice Ao25 t220.length co25] 26 (0,0))) ∧ (w'.heap[gb234]? = some (.cells #[.slice Ao28 t226.length co28,.slice Ao32 t229.length co32] 26 (0,0))) ∧ (w'.heap[s_.2]? = some (.cells #[.slice none 0 0,.slice none 0 0] 26 (0,0))) ∧ (w.heap.size ≤ s_.2) ∧ (w.heap.size ≤ s_.2) ∧ (gb216 ≠ s_.2) ∧ (s_.2 ≠ gb216) ∧ (gb225 ≠ s_.2) ∧ (s_.2 ≠ gb225) ∧ (gb234 ≠ s_.2) ∧ (s_.2 ≠ gb234) ∧ (Below w.heap.size w w')) ?_ ?_
           rotate_left
           ·intro hJ2_13
            refine join_ (σ := Value) 6 #[true,true,true,true,true,false,true,true,false,true,true,false,false,false,false] (fun s_ => [(63,s_)]) (fun s_ w' => (w'.cell? ⟨gb216,0,none⟩ = some (.slice Ao17 t208.length co17) ∧ w'.cell? ⟨gb216,1,none⟩ = some (.slice Ao19 t211.length co19) ∧ w'.cell? ⟨gb225,0,none⟩ = some (.slice Ao22 t217.length co22) ∧ w'.cell? ⟨gb225,1,none⟩ = some (.slice Ao25 t220.length co25)) ∧ (Kd.N k34 34 w' w.heap.size (fun k_ => nB k_ (.slice Ao19 t211.length co19) ∧ nB k_ (.slice Ao22 t217.length co22) ∧ nB k_ (.slice Ao25 t220.length co25) ∧ nB k_ (.slice Ao28 t226.length co28) ∧ nB k_ (.slice Ao32 t229.length co32) ∧ k_ ≠ gb216 ∧ k_ ≠ gb225 ∧ k_ ≠ gb234) s_ y235) ∧ (Kd.N k34 34 w' w.heap.size (fun k_ => nB k_ (s_) ∧ nB k_ (.slice Ao19 t211.length co19) ∧ nB k_ (.slice Ao22 t217.length co22) ∧ nB k_ (.slice Ao25 t220.length co25) ∧ nB k_ (.slice Ao28 t226.length co28) ∧ nB k_ (.slice Ao32 t229.length co32) ∧ k_ ≠ gb216 ∧ k_ ≠ gb225 ∧ k_ ≠ gb234) (.slice Ao17 t208.length co17) t208) ∧ (Kd.N k68 68 w' w.heap.size (fun k_ => nB k_ (s_) ∧ nB k_ (.slice Ao17 t208.length co17) ∧ nB k_ (.slice Ao22 t217.length co22) ∧ nB k_ (.slice Ao25 t220.length co25) ∧ nB k_ (.slice Ao28 t226.length co28) ∧ nB k_ (.slice Ao32 t229.length co32) ∧ k_ ≠ gb216 ∧ k_ ≠ gb225 ∧ k_ ≠ gb234) (.slice Ao19 t211.length co19) t211) ∧ (Kd.N k34 34 w' w.heap.size (fun k_ => nB k_ (s_) ∧ nB k_ (.slice Ao17 t208.length co17) ∧ nB k_ (.slice Ao19 t211.length co19) ∧ nB k_ (.slice Ao25 t220.length co25) ∧ nB k_ (.slice Ao28 t226.length co28) ∧ nB k_ (.slice Ao32 t229.length co32) ∧ k_ ≠ gb216 ∧ k_ ≠ gb225 ∧ k_ ≠ gb234) (.slice Ao22 t217.length co22) t217) ∧ (Kd.N k68 68 w' w.heap.size (fun k_ => nB k_ (s_) ∧ nB k_ (.slice Ao17 t208.length co17) ∧ nB k_ (.slice Ao19 t211.length co19) ∧ nB k_ (.slice Ao22 t217.length co22) ∧ nB k_ (.slice Ao28 t226.length co28) ∧ nB k_ (.slice Ao32 t229.length co32) ∧ k_ ≠ gb216 ∧ k_ ≠ gb225 ∧ k_ ≠ gb234) (.slice Ao25 t220.length co25) t220) ∧ (Kd.N k34 34 w' w.heap.size (fun k_ => nB k_ (s_) ∧ nB k_ (.slice Ao17 t208.length co17) ∧ nB k_ (.slice Ao19 t211.length co19) ∧ nB k_ (.slice Ao22 t217.length co22) ∧ nB k_ (.slice Ao25 t220.length co25) ∧ nB k_ (.slice Ao32 t229.length co32) ∧ k_ ≠ gb216 ∧ k_ ≠ gb225 ∧ k_ ≠ gb234) (.slice Ao28 t226.length co28) t226) ∧ (Kd.N k68 68 w' w.heap.size (fun k_ => nB k_ (s_) ∧ nB k_ (.slice Ao17 t208.length co17) ∧ nB k_ (.slice Ao19 t211.length co19) ∧ nB k_ (.slice Ao22 t217.length co22) ∧ nB k_ (.slice Ao25 t220.length co25) ∧ nB k_ (.slice Ao28 t226.length co28) ∧ k_ ≠ gb216 ∧ k_ ≠ gb225 ∧ k_ ≠ gb234) (.slice Ao32 t229.length co32) t229) ∧ (w'.heap[gb216]? = some (.cells #[.slice Ao17 t208.length co17,.slice Ao19 t211.length co19] 26 (0,0))) ∧ (w'.heap[gb225]? = some (.cells #[.slice Ao22 t217.length co22,.slice Ao25 t220.length co25] 26 (0,0))) ∧ (w'.heap[gb234]? = some (.cells #[.slice Ao28 t226.length co28,.slice Ao32 t229.length co32] 26 (0,0))) ∧ (Below w.heap.size w w')) ?_ ?_
            rotate_left
            ·intro hJ2
             refine join_ (σ := Nat) 6 #[true,true,false,true,true,false,true,true,false,true,true,false,false,true,false] (fun s_ => [(15,.pointer (some ⟨s_,0,none⟩))]) (fun s_ w' => (w'.cell? ⟨gb216,0,none⟩ = some (.slice Ao17 t208.length co17) ∧ w'.cell? ⟨gb216,1,none⟩ = some (.slice Ao19 t211.length co19) ∧ w'.cell? ⟨gb225,0,none⟩ = some (.slice Ao22 t217.length co22) ∧ w'.cell? ⟨gb225,1,none⟩ = some (.slice Ao25 t220.length co25)) ∧ (Kd.N k34 34 w' w.heap.size (fun k_ => nB k_ (.slice Ao19 t211.length co19) ∧ nB k_ (.slice Ao22 t217.length co22) ∧ nB k_ (.slice Ao25 t220.length co25) ∧ nB k_ (.slice Ao28 t226.length co28) ∧ nB k_ (.slice Ao32 t229.length co32) ∧ k_ ≠ gb216 ∧ k_ ≠ gb225 ∧ k_ ≠ gb234 ∧ k_ ≠ s_) (.slice Ao17 t208.length co17) t208) ∧ (Kd.N k68 68 w' w.heap.size (fun k_ => nB k_ (.slice Ao17 t208.length co17) ∧ nB k_ (.slice Ao22 t217.length co22) ∧ nB k_ (.slice Ao25 t220.length co25) ∧ nB k_ (.slice Ao28 t226.length co28) ∧ nB k_ (.slice Ao32 t229.length co32) ∧ k_ ≠ gb216 ∧ k_ ≠ gb225 ∧ k_ ≠ gb234 ∧ k_ ≠ s_) (.slice Ao19 t211.length co19) t211) ∧ (Kd.N k34 34 w' w.heap.size (fun k_ => nB k_ (.slice Ao17 t208.length co17) ∧ nB k_ (.slice Ao19 t211.length co19) ∧ nB k_ (.slice Ao25 t220.length co25) ∧ nB k_ (.slice Ao28 t226.length co28) ∧ nB k_ (.slice Ao32 t229.length co32) ∧ k_ ≠ gb216 ∧ k_ ≠ gb225 ∧ k_ ≠ gb234 ∧ k_ ≠ s_) (.slice Ao22 t217.length co22) t217) ∧ (Kd.N k68 68 w' w.heap.size (fun k_ => nB k_ (.slice Ao17 t208.length co17) ∧ nB k_ (.slice Ao19 t211.length co19) ∧ nB k_ (.slice Ao22 t217.length co22) ∧ nB k_ (.slice Ao28 t226.length co28) ∧ nB k_ (.slice Ao32 t229.length co32) ∧ k_ ≠ gb216 ∧ k_ ≠ gb225 ∧ k_ ≠ gb234 ∧ k_ ≠ s_) (.slice Ao25 t220.length co25) t220) ∧ (Kd.N k34 34 w' w.heap.size (fun k_ => nB k_ (.slice Ao17 t208.length co17) ∧ nB k_ (.slice Ao19 t211.length co19) ∧ nB k_ (.slice Ao22 t217.length co22) ∧ nB k_ (.slice Ao25 t220.length co25) ∧ nB k_ (.slice Ao32 t229.length co32) ∧ k_ ≠ gb216 ∧ k_ ≠ gb225 ∧ k_ ≠ gb234 ∧ k_ ≠ s_) (.slice Ao28 t226.length co28) t226) ∧ (Kd.N k68 68 w' w.heap.size (fun k_ => nB k_ (.slice Ao17 t208.length co17) ∧ nB k_ (.slice Ao19 t211.length co19) ∧ nB k_ (.slice Ao22 t217.length co22) ∧ nB k_ (.slice Ao25 t220.length co25) ∧ nB k_ (.slice Ao28 t226.length co28) ∧ k_ ≠ gb216 ∧ k_ ≠ gb225 ∧ k_ ≠ gb234 ∧ k_ ≠ s_) (.slice Ao32 t229.length co32) t229) ∧ (w'.heap[gb216]? = some (.cells #[.slice Ao17 t208.length co17,.slice Ao19 t211.length co19] 26 (0,0))) ∧ (w'.heap[gb225]? = some (.cells #[.slice Ao22 t217.length co22,.slice Ao25 t220.length co25] 26 (0,0))) ∧ (w'.heap[gb234]? = some (.cells #[.slice Ao28 t226.length co28,.slice Ao32 t229.length co32] 26 (0,0))) ∧ (w'.heap[s_]? = some (.cells #[.slice none 0 0,.slice none 0 0] 26 (0,0))) ∧ (w.heap.size ≤ s_) ∧ (w.heap.size ≤ s_) ∧ (gb216 ≠ s_) ∧ (s_ ≠ gb216) ∧ (gb225 ≠ s_) ∧ (s_ ≠ gb225) ∧ (gb234 ≠ s_) ∧ (s_ ≠ gb234) ∧ (Below w.heap.size w w')) ?_ ?_
             rotate_left
             ·intro hJ13
              refine two_ (i := 2) (j := 13) (Ni := some 63) (Nj := some 15) #[true,true,true,true,true,false,true,true,false,true,true,false,false,false,false] #[true,true,false,true,true,false,true,true,false,true,true,false,false,true,false] rfl rfl rfl rfl (two_of HT_.out (by kernel_rfl)) (by decide) (by decide) (fun K hK => ?_) (fun K hK => ?_)
              ·skip
               refine Kd.N_append_rows_step k34 (w0 := w) w.heap.size (by rfl) (.const (.slice none 0 0)) (.tmp 62) 23 34 (.agg #[(.string ⟨#[]⟩),(.slice none 0 0),(.slice none 0 0),(.slice none 0 0),(.int .i64 0)]) 96 rfl Tryz.underlying23 info34 rfl (by decide) (by omega) (.slice none 0 0) ([] : List (S34)) t208 _ _ _ (fun k_ => nB k_ (.slice Ao19 t211.length co19) ∧ nB k_ (.slice Ao22 t217.length co22) ∧ nB k_ (.slice Ao25 t220.length co25) ∧ nB k_ (.slice Ao28 t226.length co28) ∧ nB k_ (.slice Ao32 t229.length co32) ∧ k_ ≠ gb216 ∧ k_ ≠ gb225 ∧ k_ ≠ gb234) (fun k_ => ((fun k_ => nB k_ (.slice Ao19 t211.length co19) ∧ nB k_ (.slice Ao22 t217.length co22) ∧ nB k_ (.slice Ao25 t220.length co25) ∧ nB k_ (.slice Ao28 t226.length co28) ∧ nB k_ (.slice Ao32 t229.length co32) ∧ k_ ≠ gb216 ∧ k_ ≠ gb225 ∧ k_ ≠ gb234)) k_ ∧ nB k_ (.slice none 0 0)) rfl rfl ?aO ?aR (fun _ hk => hk) ?aF ?aB ?aS ?aL ?_
               (case aR => exact (by skip;exact Kd.N_F (Kd.N_mono (ok' := (fun k_ => ((fun k_ => nB k_ (.slice Ao19 t211.length co19) ∧ nB k_ (.slice Ao22 t217.length co22) ∧ nB k_ (.slice Ao25 t220.length co25) ∧ nB k_ (.slice Ao28 t226.length co28) ∧ nB k_ (.slice Ao32 t229.length co32) ∧ k_ ≠ gb216 ∧ k_ ≠ gb225 ∧ k_ ≠ gb234)) k_ ∧ nB k_ (.slice none 0 0))) (HO_217000.out) (fun k_ hk => ⟨⟨hk.1,⟨hk.2.1,⟨hk.2.2.1,⟨hk.2.2.2.1,⟨hk.2.2.2.2.1,⟨hk.2.2.2.2.2.1,⟨hk.2.2.2.2.2.2.1,hk.2.2.2.2.2.2.2⟩⟩⟩⟩⟩⟩⟩,(by simp [Value.ownBlock])⟩))))
               (case aB => exact (by repeat (with_reducible first | exact HB.out | apply Y3 | apply Y1 | apply Y2 | refine Y4 ?_ GE216.out | refine Y4 ?_ GE225.out | refine Y4 ?_ GE234.out)))
               (case aF => exact (fun k_ hk => ⟨Kd.fresh' (Kd.N_lt (by (with_reducible repeat (first | apply Y20));exact HO_217001.out)) k_ hk,Kd.fresh' (Kd.N_lt (by (with_reducible repeat (first | apply Y20));exact HO_226000.out)) k_ hk,Kd.fresh' (Kd.N_lt (by (with_reducible repeat (first | apply Y20));exact HO_226001.out)) k_ hk,Kd.fresh' (Kd.N_lt (by (with_reducible repeat (first | apply Y20));exact HO_235000.out)) k_ hk,Kd.fresh' (Kd.N_lt (by (with_reducible repeat (first | apply Y20));exact HO_235001.out)) k_ hk,Kd.freshB (g := gb216) (o := .cells #[.slice Ao17 t208.length co17,.slice Ao19 t211.length co19] 26 (0,0)) (by (with_reducible repeat first | apply Y11 | apply Y13 | apply Y12);exact BK216.out) k_ hk,Kd.freshB (g := gb225) (o := .cells #[.slice Ao22 t217.length co22,.slice Ao25 t220.length co25] 26 (0,0)) (by (with_reducible repeat first | apply Y11 | apply Y13 | apply Y12);exact BK225.out) k_ hk,Kd.freshB (g := gb234) (o := .cells #[.slice Ao28 t226.length co28,.slice Ao32 t229.length co32] 26 (0,0)) (by (with_reducible repeat first | apply Y11 | apply Y13 | apply Y12);exact BK234.out) k_ hk⟩))
               (case aO => exact ((Kd.N_nil _ _ _ _ (fun k_ => nB k_ (.slice Ao19 t211.length co19) ∧ nB k_ (.slice Ao22 t217.length co22) ∧ nB k_ (.slice Ao25 t220.length co25) ∧ nB k_ (.slice Ao28 t226.length co28) ∧ nB k_ (.slice Ao32 t229.length co32) ∧ k_ ≠ gb216 ∧ k_ ≠ gb225 ∧ k_ ≠ gb234))))
               (case aS => exact (below_size (by repeat (with_reducible first | exact HB.out | apply Y3 | apply Y1 | apply Y2 | refine Y4 ?_ GE216.out | refine Y4 ?_ GE225.out | refine Y4 ?_ GE234.out))))
               (case aL => have := LMc36.out;omega)
               intro v236 w44 ho hb hg hat
               rw [← Ny235.out] at ho
               have n0_ := Y0 (Kd.N_afterv (Kd.N_apart_nil (by (with_reducible repeat (first | apply Y20));exact HO_217000.out)) hg hat)
               have n1_ := Y0 (Kd.N_afterv (Kd.N_apart_nil (by (with_reducible repeat (first | apply Y20));exact HO_217001.out)) hg hat)
               have n2_ := Y0 (Kd.N_afterv (Kd.N_apart_nil (by (with_reducible repeat (first | apply Y20));exact HO_226000.out)) hg hat)
               have n3_ := Y0 (Kd.N_afterv (Kd.N_apart_nil (by (with_reducible repeat (first | apply Y20));exact HO_226001.out)) hg hat)
               have n4_ := Y0 (Kd.N_afterv (Kd.N_apart_nil (by (with_reducible repeat (first | apply Y20));exact HO_235000.out)) hg hat)
               have n5_ := Y0 (Kd.N_afterv (Kd.N_apart_nil (by (with_reducible repeat (first | apply Y20));exact HO_235001.out)) hg hat)
               have n6_ := Y0 (blk_grown (g := gb216) (o := .cells #[.slice Ao17 t208.length co17,.slice Ao19 t211.length co19] 26 (0,0)) (by (with_reducible repeat first | apply Y11 | apply Y13 | apply Y12);exact BK216.out) hg (by simp [Value.ownBlock]))
               have n7_ := Y0 (blk_grown (g := gb225) (o := .cells #[.slice Ao22 t217.length co22,.slice Ao25 t220.length co25] 26 (0,0)) (by (with_reducible repeat first | apply Y11 | apply Y13 | apply Y12);exact BK225.out) hg (by simp [Value.ownBlock]))
               have n8_ := Y0 (blk_grown (g := gb234) (o := .cells #[.slice Ao28 t226.length co28,.slice Ao32 t229.length co32] 26 (0,0)) (by (with_reducible repeat first | apply Y11 | apply Y13 | apply Y12);exact BK234.out) hg (by simp [Value.ownBlock]))
               have n9_ := Y0 (hb)
               have n10_ := Y0 (ho)
               clear HO_217000 HO_217001 HO_226000 HO_226001 HO_235000 HO_235001 BK216 BK225 BK234 HB
               have HO_217000 := n0_
               have HO_217001 := n1_
               have HO_226000 := n2_
               have HO_226001 := n3_
               have HO_235000 := n4_
               have HO_235001 := n5_
               have BK216 := n6_
               have BK225 := n7_
               have BK234 := n8_
               have HB := n9_
               have HO237 := n10_
               clear n0_ n1_ n2_ n3_ n4_ n5_ n6_ n7_ n8_ n9_ n10_ ho hb hg hat
               refine hK.out _ _ ⟨(blk_cell BK216.out 0).trans rfl,(blk_cell BK216.out 1).trans rfl,(blk_cell BK225.out 0).trans rfl,(blk_cell BK225.out 1).trans rfl⟩ (fun hHeld => ?_)
               clear hK K
               refine norm_ (a' := ?_) ?_ ?_
               rotate_left
               ·show Act.put _ (some 63) _ = _
                simp only [Act.put,Y14,Y15,Y16]
                rfl
               exact norm_ (by first | (simp only [putAll,Act.put,List.setIfInBounds_toArray,List.set_cons_zero,List.set_cons_succ];done) | (simp only [putAll,Act.put,List.setIfInBounds_toArray,List.set_cons_zero,List.set_cons_succ];rfl)) (hJ2 (v236) _ ⟨hHeld,(by (with_reducible repeat (first | apply Y20));exact HO237.out),(by (with_reducible repeat (first | apply Y20));exact Kd.N_mono HO_217000.out (fun _ hk => ⟨hk.2,⟨hk.1.1,⟨hk.1.2.1,⟨hk.1.2.2.1,⟨hk.1.2.2.2.1,⟨hk.1.2.2.2.2.1,⟨hk.1.2.2.2.2.2.1,⟨hk.1.2.2.2.2.2.2.1,hk.1.2.2.2.2.2.2.2⟩⟩⟩⟩⟩⟩⟩⟩)),(by (with_reducible repeat (first | apply Y20));exact Kd.N_mono HO_217001.out (fun _ hk => ⟨hk.2,⟨hk.1.1,⟨hk.1.2.1,⟨hk.1.2.2.1,⟨hk.1.2.2.2.1,⟨hk.1.2.2.2.2.1,⟨hk.1.2.2.2.2.2.1,⟨hk.1.2.2.2.2.2.2.1,hk.1.2.2.2.2.2.2.2⟩⟩⟩⟩⟩⟩⟩⟩)),(by (with_reducible repeat (first | apply Y20));exact Kd.N_mono HO_226000.out (fun _ hk => ⟨hk.2,⟨hk.1.1,⟨hk.1.2.1,⟨hk.1.2.2.1,⟨hk.1.2.2.2.1,⟨hk.1.2.2.2.2.1,⟨hk.1.2.2.2.2.2.1,⟨hk.1.2.2.2.2.2.2.1,hk.1.2.2.2.2.2.2.2⟩⟩⟩⟩⟩⟩⟩⟩)),(by (with_reducible repeat (first | apply Y20));exact Kd.N_mono HO_226001.out (fun _ hk => ⟨hk.2,⟨hk.1.1,⟨hk.1.2.1,⟨hk.1.2.2.1,⟨hk.1.2.2.2.1,⟨hk.1.2.2.2.2.1,⟨hk.1.2.2.2.2.2.1,⟨hk.1.2.2.2.2.2.2.1,hk.1.2.2.2.2.2.2.2⟩⟩⟩⟩⟩⟩⟩⟩)),(by (with_reducible repeat (first | apply Y20));exact Kd.N_mono HO_235000.out (fun _ hk => ⟨hk.2,⟨hk.1.1,⟨hk.1.2.1,⟨hk.1.2.2.1,⟨hk.1.2.2.2.1,⟨hk.1.2.2.2.2.1,⟨hk.1.2.2.2.2.2.1,⟨hk.1.2.2.2.2.2.2.1,hk.1.2.2.2.2.2.2.2⟩⟩⟩⟩⟩⟩⟩⟩)),(by (with_reducible repeat (first | apply Y20));exact Kd.N_mono HO_235001.out (fun _ hk => ⟨hk.2,⟨hk.1.1,⟨hk.1.2.1,⟨hk.1.2.2.1,⟨hk.1.2.2.2.1,⟨hk.1.2.2.2.2.1,⟨hk.1.2.2.2.2.2.1,⟨hk.1.2.2.2.2.2.2.1,hk.1.2.2.2.2.2.2.2⟩⟩⟩⟩⟩⟩⟩⟩)),(by (with_reducible repeat first | apply Y11 | apply Y13 | apply Y12);exact BK216.out),(by (with_reducible repeat first | apply Y11 | apply Y13 | apply Y12);exact BK225.out),(by (with_reducible repeat first | apply Y11 | apply Y13 | apply Y12);exact BK234.out),(by repeat (with_reducible first | exact HB.out | apply Y3 | apply Y1 | apply Y2 | refine Y4 ?_ GE216.out | refine Y4 ?_ GE225.out | refine Y4 ?_ GE234.out))⟩)
              ·skip
               refine box_step ?hg (N := 15) ?hd (cs := #[.slice none 0 0,.slice none 0 0]) (t := 26) ?hr ?_;(case hd => rfl);(case hg => rfl);(case hr => first | (go_simp;done) | (go_simp;rfl))
               intro gb247 hg w44 hbox hb
               have n0_ := Y0 (Kd.N_below (Kd.N_elderB (by (with_reducible repeat (first | apply Y20));exact HO_217000.out) gb247 (Nat.le_of_eq hg.symm)) hb)
               have n1_ := Y0 (Kd.N_below (Kd.N_elderB (by (with_reducible repeat (first | apply Y20));exact HO_217001.out) gb247 (Nat.le_of_eq hg.symm)) hb)
               have n2_ := Y0 (Kd.N_below (Kd.N_elderB (by (with_reducible repeat (first | apply Y20));exact HO_226000.out) gb247 (Nat.le_of_eq hg.symm)) hb)
               have n3_ := Y0 (Kd.N_below (Kd.N_elderB (by (with_reducible repeat (first | apply Y20));exact HO_226001.out) gb247 (Nat.le_of_eq hg.symm)) hb)
               have n4_ := Y0 (Kd.N_below (Kd.N_elderB (by (with_reducible repeat (first | apply Y20));exact HO_235000.out) gb247 (Nat.le_of_eq hg.symm)) hb)
               have n5_ := Y0 (Kd.N_below (Kd.N_elderB (by (with_reducible repeat (first | apply Y20));exact HO_235001.out) gb247 (Nat.le_of_eq hg.symm)) hb)
               have n6_ := Y0 (blk_below (g := gb216) (o := .cells #[.slice Ao17 t208.length co17,.slice Ao19 t211.length co19] 26 (0,0)) (by (with_reducible repeat first | apply Y11 | apply Y13 | apply Y12);exact BK216.out) hb)
               have n7_ := Y0 (blk_below (g := gb225) (o := .cells #[.slice Ao22 t217.length co22,.slice Ao25 t220.length co25] 26 (0,0)) (by (with_reducible repeat first | apply Y11 | apply Y13 | apply Y12);exact BK225.out) hb)
               have n8_ := Y0 (blk_below (g := gb234) (o := .cells #[.slice Ao28 t226.length co28,.slice Ao32 t229.length co32] 26 (0,0)) (by (with_reducible repeat first | apply Y11 | apply Y13 | apply Y12);exact BK234.out) hb)
               have n9_ := Y0 (below_step (by repeat (with_reducible first | exact HB.out | apply Y3 | apply Y1 | apply Y2 | refine Y4 ?_ GE216.out | refine Y4 ?_ GE225.out | refine Y4 ?_ GE234.out)) hb)
               have n10_ := Y0 (hbox)
               have n11_ := Y0 ((by rw [hg];exact (below_size (by repeat (with_reducible first | exact HB.out | apply Y3 | apply Y1 | apply Y2 | refine Y4 ?_ GE216.out | refine Y4 ?_ GE225.out | refine Y4 ?_ GE234.out))) : w.heap.size ≤ gb247))
               have n12_ := Y0 ((by rw [hg];exact (below_size (by repeat (with_reducible first | exact HB.out | apply Y3 | apply Y1 | apply Y2 | refine Y4 ?_ GE216.out | refine Y4 ?_ GE225.out | refine Y4 ?_ GE234.out))) : w.heap.size ≤ gb247))
               have n13_ := Y0 ((by rw [hg];exact Nat.ne_of_lt (blk_lt (g := gb216) (o := .cells #[.slice Ao17 t208.length co17,.slice Ao19 t211.length co19] 26 (0,0)) (by (with_reducible repeat first | apply Y11 | apply Y13 | apply Y12);exact BK216.out)) : gb216 ≠ gb247))
               have n14_ := Y0 ((by rw [hg];exact Nat.ne_of_gt (blk_lt (g := gb216) (o := .cells #[.slice Ao17 t208.length co17,.slice Ao19 t211.length co19] 26 (0,0)) (by (with_reducible repeat first | apply Y11 | apply Y13 | apply Y12);exact BK216.out)) : gb247 ≠ gb216))
               have n15_ := Y0 ((by rw [hg];exact Nat.ne_of_lt (blk_lt (g := gb225) (o := .cells #[.slice Ao22 t217.length co22,.slice Ao25 t220.length co25] 26 (0,0)) (by (with_reducible repeat first | apply Y11 | apply Y13 | apply Y12);exact BK225.out)) : gb225 ≠ gb247))
               have n16_ := Y0 ((by rw [hg];exact Nat.ne_of_gt (blk_lt (g := gb225) (o := .cells #[.slice Ao22 t217.length co22,.slice Ao25 t220.length co25] 26 (0,0)) (by (with_reducible repeat first | apply Y11 | apply Y13 | apply Y12);exact BK225.out)) : gb247 ≠ gb225))
               have n17_ := Y0 ((by rw [hg];exact Nat.ne_of_lt (blk_lt (g := gb234) (o := .cells #[.slice Ao28 t226.length co28,.slice Ao32 t229.length co32] 26 (0,0)) (by (with_reducible repeat first | apply Y11 | apply Y13 | apply Y12);exact BK234.out)) : gb234 ≠ gb247))
               have n18_ := Y0 ((by rw [hg];exact Nat.ne_of_gt (blk_lt (g := gb234) (o := .cells #[.slice Ao28 t226.length co28,.slice Ao32 t229.length co32] 26 (0,0)) (by (with_reducible repeat first | apply Y11 | apply Y13 | apply Y12);exact BK234.out)) : gb247 ≠ gb234))
               clear HO_217000 HO_217001 HO_226000 HO_226001 HO_235000 HO_235001 BK216 BK225 BK234 HB
               have HO_217000 := n0_
               have HO_217001 := n1_
               have HO_226000 := n2_
               have HO_226001 := n3_
               have HO_235000 := n4_
               have HO_235001 := n5_
               have BK216 := n6_
               have BK225 := n7_
               have BK234 := n8_
               have HB := n9_
               have BK247 := n10_
               have GW247 := n11_
               have GE247 := n12_
               have NB216_247 := n13_
               have NB247_216 := n14_
               have NB225_247 := n15_
               have NB247_225 := n16_
               have NB234_247 := n17_
               have NB247_234 := n18_
               clear n0_ n1_ n2_ n3_ n4_ n5_ n6_ n7_ n8_ n9_ n10_ n11_ n12_ n13_ n14_ n15_ n16_ n17_ n18_ hb hbox hg
               refine hK.out _ _ ⟨(blk_cell BK216.out 0).trans rfl,(blk_cell BK216.out 1).trans rfl,(blk_cell BK225.out 0).trans rfl,(blk_cell BK225.out 1).trans rfl⟩ (fun hHeld => ?_)
               clear hK K
               refine norm_ (a' := ?_) ?_ ?_
               rotate_left
               ·show Act.put _ (some 15) _ = _
                simp only [Act.put,Y14,Y15,Y16]
                rfl
               exact norm_ (by first | (simp only [putAll,Act.put,List.setIfInBounds_toArray,List.set_cons_zero,List.set_cons_succ];done) | (simp only [putAll,Act.put,List.setIfInBounds_toArray,List.set_cons_zero,List.set_cons_succ];rfl)) (hJ13 (gb247) _ ⟨hHeld,(by (with_reducible repeat (first | apply Y20));exact Kd.N_mono HO_217000.out (fun _ hk => ⟨hk.1.1,⟨hk.1.2.1,⟨hk.1.2.2.1,⟨hk.1.2.2.2.1,⟨hk.1.2.2.2.2.1,⟨hk.1.2.2.2.2.2.1,⟨hk.1.2.2.2.2.2.2.1,⟨hk.1.2.2.2.2.2.2.2,hk.2⟩⟩⟩⟩⟩⟩⟩⟩)),(by (with_reducible repeat (first | apply Y20));exact Kd.N_mono HO_217001.out (fun _ hk => ⟨hk.1.1,⟨hk.1.2.1,⟨hk.1.2.2.1,⟨hk.1.2.2.2.1,⟨hk.1.2.2.2.2.1,⟨hk.1.2.2.2.2.2.1,⟨hk.1.2.2.2.2.2.2.1,⟨hk.1.2.2.2.2.2.2.2,hk.2⟩⟩⟩⟩⟩⟩⟩⟩)),(by (with_reducible repeat (first | apply Y20));exact Kd.N_mono HO_226000.out (fun _ hk => ⟨hk.1.1,⟨hk.1.2.1,⟨hk.1.2.2.1,⟨hk.1.2.2.2.1,⟨hk.1.2.2.2.2.1,⟨hk.1.2.2.2.2.2.1,⟨hk.1.2.2.2.2.2.2.1,⟨hk.1.2.2.2.2.2.2.2,hk.2⟩⟩⟩⟩⟩⟩⟩⟩)),(by (with_reducible repeat (first | apply Y20));exact Kd.N_mono HO_226001.out (fun _ hk => ⟨hk.1.1,⟨hk.1.2.1,⟨hk.1.2.2.1,⟨hk.1.2.2.2.1,⟨hk.1.2.2.2.2.1,⟨hk.1.2.2.2.2.2.1,⟨hk.1.2.2.2.2.2.2.1,⟨hk.1.2.2.2.2.2.2.2,hk.2⟩⟩⟩⟩⟩⟩⟩⟩)),(by (with_reducible repeat (first | apply Y20));exact Kd.N_mono HO_235000.out (fun _ hk => ⟨hk.1.1,⟨hk.1.2.1,⟨hk.1.2.2.1,⟨hk.1.2.2.2.1,⟨hk.1.2.2.2.2.1,⟨hk.1.2.2.2.2.2.1,⟨hk.1.2.2.2.2.2.2.1,⟨hk.1.2.2.2.2.2.2.2,hk.2⟩⟩⟩⟩⟩⟩⟩⟩)),(by (with_reducible repeat (first | apply Y20));exact Kd.N_mono HO_235001.out (fun _ hk => ⟨hk.1.1,⟨hk.1.2.1,⟨hk.1.2.2.1,⟨hk.1.2.2.2.1,⟨hk.1.2.2.2.2.1,⟨hk.1.2.2.2.2.2.1,⟨hk.1.2.2.2.2.2.2.1,⟨hk.1.2.2.2.2.2.2.2,hk.2⟩⟩⟩⟩⟩⟩⟩⟩)),(by (with_reducible repeat first | apply Y11 | apply Y13 | apply Y12);exact BK216.out),(by (with_reducible repeat first | apply Y11 | apply Y13 | apply Y12);exact BK225.out),(by (with_reducible repeat first | apply Y11 | apply Y13 | apply Y12);exact BK234.out),(by (with_reducible repeat first | apply Y11 | apply Y13 | apply Y12);exact BK247.out),GW247.out,GE247.out,NB216_247.out,NB247_216.out,NB225_247.out,NB247_225.out,NB234_247.out,NB247_234.out,(by repeat (with_reducible first | exact HB.out | apply Y3 | apply Y1 | apply Y2 | refine Y4 ?_ GE216.out | refine Y4 ?_ GE225.out | refine Y4 ?_ GE234.out | refine Y4 ?_ GE247.out))⟩)
             ·skip
              rintro gb247 w45 ⟨hS_,h0_,h1_,h2_,h3_,h4_,h5_,h6_,h7_,h8_,h9_,h10_,h11_,h12_,h13_,h14_,h15_,h16_,h17_,h18_⟩
              have n0_ : Aside0 (Kd.N k34 34 w45 w.heap.size (fun k_ => nB k_ (.slice Ao19 t211.length co19) ∧ nB k_ (.slice Ao22 t217.length co22) ∧ nB k_ (.slice Ao25 t220.length co25) ∧ nB k_ (.slice Ao28 t226.length co28) ∧ nB k_ (.slice Ao32 t229.length co32) ∧ k_ ≠ gb216 ∧ k_ ≠ gb225 ∧ k_ ≠ gb234 ∧ k_ ≠ gb247) (.slice Ao17 t208.length co17) t208) := ⟨h0_⟩
              have n1_ : Aside0 (Kd.N k68 68 w45 w.heap.size (fun k_ => nB k_ (.slice Ao17 t208.length co17) ∧ nB k_ (.slice Ao22 t217.length co22) ∧ nB k_ (.slice Ao25 t220.length co25) ∧ nB k_ (.slice Ao28 t226.length co28) ∧ nB k_ (.slice Ao32 t229.length co32) ∧ k_ ≠ gb216 ∧ k_ ≠ gb225 ∧ k_ ≠ gb234 ∧ k_ ≠ gb247) (.slice Ao19 t211.length co19) t211) := ⟨h1_⟩
              have n2_ : Aside0 (Kd.N k34 34 w45 w.heap.size (fun k_ => nB k_ (.slice Ao17 t208.length co17) ∧ nB k_ (.slice Ao19 t211.length co19) ∧ nB k_ (.slice Ao25 t220.length co25) ∧ nB k_ (.slice Ao28 t226.length co28) ∧ nB k_ (.slice Ao32 t229.length co32) ∧ k_ ≠ gb216 ∧ k_ ≠ gb225 ∧ k_ ≠ gb234 ∧ k_ ≠ gb247) (.slice Ao22 t217.length co22) t217) := ⟨h2_⟩
              have n3_ : Aside0 (Kd.N k68 68 w45 w.heap.size (fun k_ => nB k_ (.slice Ao17 t208.length co17) ∧ nB k_ (.slice Ao19 t211.length co19) ∧ nB k_ (.slice Ao22 t217.length co22) ∧ nB k_ (.slice Ao28 t226.length co28) ∧ nB k_ (.slice Ao32 t229.length co32) ∧ k_ ≠ gb216 ∧ k_ ≠ gb225 ∧ k_ ≠ gb234 ∧ k_ ≠ gb247) (.slice Ao25 t220.length co25) t220) := ⟨h3_⟩
              have n4_ : Aside0 (Kd.N k34 34 w45 w.heap.size (fun k_ => nB k_ (.slice Ao17 t208.length co17) ∧ nB k_ (.slice Ao19 t211.length co19) ∧ nB k_ (.slice Ao22 t217.length co22) ∧ nB k_ (.slice Ao25 t220.length co25) ∧ nB k_ (.slice Ao32 t229.length co32) ∧ k_ ≠ gb216 ∧ k_ ≠ gb225 ∧ k_ ≠ gb234 ∧ k_ ≠ gb247) (.slice Ao28 t226.length co28) t226) := ⟨h4_⟩
              have n5_ : Aside0 (Kd.N k68 68 w45 w.heap.size (fun k_ => nB k_ (.slice Ao17 t208.length co17) ∧ nB k_ (.slice Ao19 t211.length co19) ∧ nB k_ (.slice Ao22 t217.length co22) ∧ nB k_ (.slice Ao25 t220.length co25) ∧ nB k_ (.slice Ao28 t226.length co28) ∧ k_ ≠ gb216 ∧ k_ ≠ gb225 ∧ k_ ≠ gb234 ∧ k_ ≠ gb247) (.slice Ao32 t229.length co32) t229) := ⟨h5_⟩
              have n6_ : Aside0 (w45.heap[gb216]? = some (.cells #[.slice Ao17 t208.length co17,.slice Ao19 t211.length co19] 26 (0,0))) := ⟨h6_⟩
              have n7_ : Aside0 (w45.heap[gb225]? = some (.cells #[.slice Ao22 t217.length co22,.slice Ao25 t220.length co25] 26 (0,0))) := ⟨h7_⟩
              have n8_ : Aside0 (w45.heap[gb234]? = some (.cells #[.slice Ao28 t226.length co28,.slice Ao32 t229.length co32] 26 (0,0))) := ⟨h8_⟩
              have n9_ : Aside0 (w45.heap[gb247]? = some (.cells #[.slice none 0 0,.slice none 0 0] 26 (0,0))) := ⟨h9_⟩
              have n10_ : Aside0 (w.heap.size ≤ gb247) := ⟨h10_⟩
              have n11_ : Aside0 (w.heap.size ≤ gb247) := ⟨h11_⟩
              have n12_ : Aside0 (gb216 ≠ gb247) := ⟨h12_⟩
              have n13_ : Aside0 (gb247 ≠ gb216) := ⟨h13_⟩
              have n14_ : Aside0 (gb225 ≠ gb247) := ⟨h14_⟩
              have n15_ : Aside0 (gb247 ≠ gb225) := ⟨h15_⟩
              have n16_ : Aside0 (gb234 ≠ gb247) := ⟨h16_⟩
              have n17_ : Aside0 (gb247 ≠ gb234) := ⟨h17_⟩
              have n18_ : Aside0 (Below w.heap.size w w45) := ⟨h18_⟩
              clear HO_217000 HO_217001 HO_226000 HO_226001 HO_235000 HO_235001 BK216 BK225 BK234 HB h0_ h1_ h2_ h3_ h4_ h5_ h6_ h7_ h8_ h9_ h10_ h11_ h12_ h13_ h14_ h15_ h16_ h17_ h18_
              have HO_217000 := n0_
              have HO_217001 := n1_
              have HO_226000 := n2_
              have HO_226001 := n3_
              have HO_235000 := n4_
              have HO_235001 := n5_
              have BK216 := n6_
              have BK225 := n7_
              have BK234 := n8_
              have BK247 := n9_
              have GW247 := n10_
              have GE247 := n11_
              have NB216_247 := n12_
              have NB247_216 := n13_
              have NB225_247 := n14_
              have NB247_225 := n15_
              have NB234_247 := n16_
              have NB247_234 := n17_
              have HB := n18_
              clear n0_ n1_ n2_ n3_ n4_ n5_ n6_ n7_ n8_ n9_ n10_ n11_ n12_ n13_ n14_ n15_ n16_ n17_ n18_
              have hHeld : w45.cell? ⟨gb216,0,none⟩ = some (.slice Ao17 t208.length co17) ∧ w45.cell? ⟨gb216,1,none⟩ = some (.slice Ao19 t211.length co19) ∧ w45.cell? ⟨gb225,0,none⟩ = some (.slice Ao22 t217.length co22) ∧ w45.cell? ⟨gb225,1,none⟩ = some (.slice Ao25 t220.length co25) := hS_
              refine norm_ (a' := ?_) ?_ ?_
              rotate_left
              ·simp only [putAll,Act.put,List.setIfInBounds_toArray,List.set_cons_zero,List.set_cons_succ]
               rfl
              refine one_ (i := 2) (N := some 63) (sqB 15 9951) rfl rfl (one_of HT_.out (by kernel_rfl)) (by decide) (fun K hK => ?_)
              refine Kd.N_append_rows_step k34 (w0 := w) w.heap.size (by rfl) (.const (.slice none 0 0)) (.tmp 62) 23 34 (.agg #[(.string ⟨#[]⟩),(.slice none 0 0),(.slice none 0 0),(.slice none 0 0),(.int .i64 0)]) 96 rfl Tryz.underlying23 info34 rfl (by decide) (by omega) (.slice none 0 0) ([] : List (S34)) t208 _ _ _ (fun k_ => nB k_ (.slice Ao19 t211.length co19) ∧ nB k_ (.slice Ao22 t217.length co22) ∧ nB k_ (.slice Ao25 t220.length co25) ∧ nB k_ (.slice Ao28 t226.length co28) ∧ nB k_ (.slice Ao32 t229.length co32) ∧ k_ ≠ gb216 ∧ k_ ≠ gb225 ∧ k_ ≠ gb234 ∧ k_ ≠ gb247) (fun k_ => ((fun k_ => nB k_ (.slice Ao19 t211.length co19) ∧ nB k_ (.slice Ao22 t217.length co22) ∧ nB k_ (.slice Ao25 t220.length co25) ∧ nB k_ (.slice Ao28 t226.length co28) ∧ nB k_ (.slice Ao32 t229.length co32) ∧ k_ ≠ gb216 ∧ k_ ≠ gb225 ∧ k_ ≠ gb234 ∧ k_ ≠ gb247)) k_ ∧ nB k_ (.slice none 0 0)) rfl rfl ?aO ?aR (fun _ hk => hk) ?aF ?aB ?aS ?aL ?_
              (case aR => exact (by skip;exact Kd.N_F (Kd.N_mono (ok' := (fun k_ => ((fun k_ => nB k_ (.slice Ao19 t211.length co19) ∧ nB k_ (.slice Ao22 t217.length co22) ∧ nB k_ (.slice Ao25 t220.length co25) ∧ nB k_ (.slice Ao28 t226.length co28) ∧ nB k_ (.slice Ao32 t229.length co32) ∧ k_ ≠ gb216 ∧ k_ ≠ gb225 ∧ k_ ≠ gb234 ∧ k_ ≠ gb247)) k_ ∧ nB k_ (.slice none 0 0))) (HO_217000.out) (fun k_ hk => ⟨⟨hk.1,⟨hk.2.1,⟨hk.2.2.1,⟨hk.2.2.2.1,⟨hk.2.2.2.2.1,⟨hk.2.2.2.2.2.1,⟨hk.2.2.2.2.2.2.1,⟨hk.2.2.2.2.2.2.2.1,hk.2.2.2.2.2.2.2.2⟩⟩⟩⟩⟩⟩⟩⟩,(by simp [Value.ownBlock])⟩))))
              (case aB => exact (by repeat (with_reducible first | exact HB.out | apply Y3 | apply Y1 | apply Y2 | refine Y4 ?_ GE216.out | refine Y4 ?_ GE225.out | refine Y4 ?_ GE234.out | refine Y4 ?_ GE247.out)))
              (case aF => exact (fun k_ hk => ⟨Kd.fresh' (Kd.N_lt (by (with_reducible repeat (first | apply Y20));exact HO_217001.out)) k_ hk,Kd.fresh' (Kd.N_lt (by (with_reducible repeat (first | apply Y20));exact HO_226000.out)) k_ hk,Kd.fresh' (Kd.N_lt (by (with_reducible repeat (first | apply Y20));exact HO_226001.out)) k_ hk,Kd.fresh' (Kd.N_lt (by (with_reducible repeat (first | apply Y20));exact HO_235000.out)) k_ hk,Kd.fresh' (Kd.N_lt (by (with_reducible repeat (first | apply Y20));exact HO_235001.out)) k_ hk,Kd.freshB (g := gb216) (o := .cells #[.slice Ao17 t208.length co17,.slice Ao19 t211.length co19] 26 (0,0)) (by (with_reducible repeat first | apply Y11 | apply Y13 | apply Y12);exact BK216.out) k_ hk,Kd.freshB (g := gb225) (o := .cells #[.slice Ao22 t217.length co22,.slice Ao25 t220.length co25] 26 (0,0)) (by (with_reducible repeat first | apply Y11 | apply Y13 | apply Y12);exact BK225.out) k_ hk,Kd.freshB (g := gb234) (o := .cells #[.slice Ao28 t226.length co28,.slice Ao32 t229.length co32] 26 (0,0)) (by (with_reducible repeat first | apply Y11 | apply Y13 | apply Y12);exact BK234.out) k_ hk,Kd.freshB (g := gb247) (o := .cells #[.slice none 0 0,.slice none 0 0] 26 (0,0)) (by (with_reducible repeat first | apply Y11 | apply Y13 | apply Y12);exact BK247.out) k_ hk⟩))
              (case aO => exact ((Kd.N_nil _ _ _ _ (fun k_ => nB k_ (.slice Ao19 t211.length co19) ∧ nB k_ (.slice Ao22 t217.length co22) ∧ nB k_ (.slice Ao25 t220.length co25) ∧ nB k_ (.slice Ao28 t226.length co28) ∧ nB k_ (.slice Ao32 t229.length co32) ∧ k_ ≠ gb216 ∧ k_ ≠ gb225 ∧ k_ ≠ gb234 ∧ k_ ≠ gb247))))
              (case aS => exact (below_size (by repeat (with_reducible first | exact HB.out | apply Y3 | apply Y1 | apply Y2 | refine Y4 ?_ GE216.out | refine Y4 ?_ GE225.out | refine Y4 ?_ GE234.out | refine Y4 ?_ GE247.out))))
              (case aL => have := LMc36.out;omega)
              intro v236 w46 ho hb hg hat
              rw [← Ny235.out] at ho
              have n0_ := Y0 (Kd.N_afterv (Kd.N_apart_nil (by (with_reducible repeat (first | apply Y20));exact HO_217000.out)) hg hat)
              have n1_ := Y0 (Kd.N_afterv (Kd.N_apart_nil (by (with_reducible repeat (first | apply Y20));exact HO_217001.out)) hg hat)
              have n2_ := Y0 (Kd.N_afterv (Kd.N_apart_nil (by (with_reducible repeat (first | apply Y20));exact HO_226000.out)) hg hat)
              have n3_ := Y0 (Kd.N_afterv (Kd.N_apart_nil (by (with_reducible repeat (first | apply Y20));exact HO_226001.out)) hg hat)
              have n4_ := Y0 (Kd.N_afterv (Kd.N_apart_nil (by (with_reducible repeat (first | apply Y20));exact HO_235000.out)) hg hat)
              have n5_ := Y0 (Kd.N_afterv (Kd.N_apart_nil (by (with_reducible repeat (first | apply Y20));exact HO_235001.out)) hg hat)
              have n6_ := Y0 (blk_grown (g := gb216) (o := .cells #[.slice Ao17 t208.length co17,.slice Ao19 t211.length co19] 26 (0,0)) (by (with_reducible repeat first | apply Y11 | apply Y13 | apply Y12);exact BK216.out) hg (by simp [Value.ownBlock]))
              have n7_ := Y0 (blk_grown (g := gb225) (o := .cells #[.slice Ao22 t217.length co22,.slice Ao25 t220.length co25] 26 (0,0)) (by (with_reducible repeat first | apply Y11 | apply Y13 | apply Y12);exact BK225.out) hg (by simp [Value.ownBlock]))
              have n8_ := Y0 (blk_grown (g := gb234) (o := .cells #[.slice Ao28 t226.length co28,.slice Ao32 t229.length co32] 26 (0,0)) (by (with_reducible repeat first | apply Y11 | apply Y13 | apply Y12);exact BK234.out) hg (by simp [Value.ownBlock]))
              have n9_ := Y0 (blk_grown (g := gb247) (o := .cells #[.slice none 0 0,.slice none 0 0] 26 (0,0)) (by (with_reducible repeat first | apply Y11 | apply Y13 | apply Y12);exact BK247.out) hg (by simp [Value.ownBlock]))
              have n10_ := Y0 (hb)
              have n11_ := Y0 (ho)
              clear HO_217000 HO_217001 HO_226000 HO_226001 HO_235000 HO_235001 BK216 BK225 BK234 BK247 HB
              have HO_217000 := n0_
              have HO_217001 := n1_
              have HO_226000 := n2_
              have HO_226001 := n3_
              have HO_235000 := n4_
              have HO_235001 := n5_
              have BK216 := n6_
              have BK225 := n7_
              have BK234 := n8_
              have BK247 := n9_
              have HB := n10_
              have HO237 := n11_
              clear n0_ n1_ n2_ n3_ n4_ n5_ n6_ n7_ n8_ n9_ n10_ n11_ ho hb hg hat
              refine hK.out _ _ ⟨(blk_cell BK216.out 0).trans rfl,(blk_cell BK216.out 1).trans rfl,(blk_cell BK225.out 0).trans rfl,(blk_cell BK225.out 1).trans rfl⟩ (fun hHeld => ?_)
              clear hK K
              refine norm_ (a' := ?_) ?_ ?_
              rotate_left
              ·show Act.put _ (some 63) _ = _
               simp only [Act.put,Y14,Y15,Y16]
               rfl
              exact norm_ (by first | (simp only [putAll,Act.put,List.setIfInBounds_toArray,List.set_cons_zero,List.set_cons_succ];done) | (simp only [putAll,Act.put,List.setIfInBounds_toArray,List.set_cons_zero,List.set_cons_succ];rfl)) (hJ2_13 (v236,gb247) _ ⟨hHeld,(by (with_reducible repeat (first | apply Y20));exact HO237.out),(by (with_reducible repeat (first | apply Y20));exact Kd.N_mono HO_217000.out (fun _ hk => ⟨hk.2,⟨hk.1.1,⟨hk.1.2.1,⟨hk.1.2.2.1,⟨hk.1.2.2.2.1,⟨hk.1.2.2.2.2.1,⟨hk.1.2.2.2.2.2.1,⟨hk.1.2.2.2.2.2.2.1,⟨hk.1.2.2.2.2.2.2.2.1,hk.1.2.2.2.2.2.2.2.2⟩⟩⟩⟩⟩⟩⟩⟩⟩)),(by (with_reducible repeat (first | apply Y20));exact Kd.N_mono HO_217001.out (fun _ hk => ⟨hk.2,⟨hk.1.1,⟨hk.1.2.1,⟨hk.1.2.2.1,⟨hk.1.2.2.2.1,⟨hk.1.2.2.2.2.1,⟨hk.1.2.2.2.2.2.1,⟨hk.1.2.2.2.2.2.2.1,⟨hk.1.2.2.2.2.2.2.2.1,hk.1.2.2.2.2.2.2.2.2⟩⟩⟩⟩⟩⟩⟩⟩⟩)),(by (with_reducible repeat (first | apply Y20));exact Kd.N_mono HO_226000.out (fun _ hk => ⟨hk.2,⟨hk.1.1,⟨hk.1.2.1,⟨hk.1.2.2.1,⟨hk.1.2.2.2.1,⟨hk.1.2.2.2.2.1,⟨hk.1.2.2.2.2.2.1,⟨hk.1.2.2.2.2.2.2.1,⟨hk.1.2.2.2.2.2.2.2.1,hk.1.2.2.2.2.2.2.2.2⟩⟩⟩⟩⟩⟩⟩⟩⟩)),(by (with_reducible repeat (first | apply Y20));exact Kd.N_mono HO_226001.out (fun _ hk => ⟨hk.2,⟨hk.1.1,⟨hk.1.2.1,⟨hk.1.2.2.1,⟨hk.1.2.2.2.1,⟨hk.1.2.2.2.2.1,⟨hk.1.2.2.2.2.2.1,⟨hk.1.2.2.2.2.2.2.1,⟨hk.1.2.2.2.2.2.2.2.1,hk.1.2.2.2.2.2.2.2.2⟩⟩⟩⟩⟩⟩⟩⟩⟩)),(by (with_reducible repeat (first | apply Y20));exact Kd.N_mono HO_235000.out (fun _ hk => ⟨hk.2,⟨hk.1.1,⟨hk.1.2.1,⟨hk.1.2.2.1,⟨hk.1.2.2.2.1,⟨hk.1.2.2.2.2.1,⟨hk.1.2.2.2.2.2.1,⟨hk.1.2.2.2.2.2.2.1,⟨hk.1.2.2.2.2.2.2.2.1,hk.1.2.2.2.2.2.2.2.2⟩⟩⟩⟩⟩⟩⟩⟩⟩)),(by (with_reducible repeat (first | apply Y20));exact Kd.N_mono HO_235001.out (fun _ hk => ⟨hk.2,⟨hk.1.1,⟨hk.1.2.1,⟨hk.1.2.2.1,⟨hk.1.2.2.2.1,⟨hk.1.2.2.2.2.1,⟨hk.1.2.2.2.2.2.1,⟨hk.1.2.2.2.2.2.2.1,⟨hk.1.2.2.2.2.2.2.2.1,hk.1.2.2.2.2.2.2.2.2⟩⟩⟩⟩⟩⟩⟩⟩⟩)),(by (with_reducible repeat first | apply Y11 | apply Y13 | apply Y12);exact BK216.out),(by (with_reducible repeat first | apply Y11 | apply Y13 | apply Y12);exact BK225.out),(by (with_reducible repeat first | apply Y11 | apply Y13 | apply Y12);exact BK234.out),(by (with_reducible repeat first | apply Y11 | apply Y13 | apply Y12);exact BK247.out),GW247.out,GE247.out,NB216_247.out,NB247_216.out,NB225_247.out,NB247_225.out,NB234_247.out,NB247_234.out,(by repeat (with_reducible first | exact HB.out | apply Y3 | apply Y1 | apply Y2 | refine Y4 ?_ GE216.out | refine Y4 ?_ GE225.out | refine Y4 ?_ GE234.out | refine Y4 ?_ GE247.out))⟩)
            ·skip
             rintro v236 w45 ⟨hS_,h0_,h1_,h2_,h3_,h4_,h5_,h6_,h7_,h8_,h9_,h10_⟩
             have n0_ : Aside0 (Kd.N k34 34 w45 w.heap.size (fun k_ => nB k_ (.slice Ao19 t211.length co19) ∧ nB k_ (.slice Ao22 t217.length co22) ∧ nB k_ (.slice Ao25 t220.length co25) ∧ nB k_ (.slice Ao28 t226.length co28) ∧ nB k_ (.slice Ao32 t229.length co32) ∧ k_ ≠ gb216 ∧ k_ ≠ gb225 ∧ k_ ≠ gb234) v236 y235) := ⟨h0_⟩
             have n1_ : Aside0 (Kd.N k34 34 w45 w.heap.size (fun k_ => nB k_ (v236) ∧ nB k_ (.slice Ao19 t211.length co19) ∧ nB k_ (.slice Ao22 t217.length co22) ∧ nB k_ (.slice Ao25 t220.length co25) ∧ nB k_ (.slice Ao28 t226.length co28) ∧ nB k_ (.slice Ao32 t229.length co32) ∧ k_ ≠ gb216 ∧ k_ ≠ gb225 ∧ k_ ≠ gb234) (.slice Ao17 t208.length co17) t208) := ⟨h1_⟩
             have n2_ : Aside0 (Kd.N k68 68 w45 w.heap.size (fun k_ => nB k_ (v236) ∧ nB k_ (.slice Ao17 t208.length co17) ∧ nB k_ (.slice Ao22 t217.length co22) ∧ nB k_ (.slice Ao25 t220.length co25) ∧ nB k_ (.slice Ao28 t226.length co28) ∧ nB k_ (.slice Ao32 t229.length co32) ∧ k_ ≠ gb216 ∧ k_ ≠ gb225 ∧ k_ ≠ gb234) (.slice Ao19 t211.length co19) t211) := ⟨h2_⟩
             have n3_ : Aside0 (Kd.N k34 34 w45 w.heap.size (fun k_ => nB k_ (v236) ∧ nB k_ (.slice Ao17 t208.length co17) ∧ nB k_ (.slice Ao19 t211.length co19) ∧ nB k_ (.slice Ao25 t220.length co25) ∧ nB k_ (.slice Ao28 t226.length co28) ∧ nB k_ (.slice Ao32 t229.length co32) ∧ k_ ≠ gb216 ∧ k_ ≠ gb225 ∧ k_ ≠ gb234) (.slice Ao22 t217.length co22) t217) := ⟨h3_⟩
             have n4_ : Aside0 (Kd.N k68 68 w45 w.heap.size (fun k_ => nB k_ (v236) ∧ nB k_ (.slice Ao17 t208.length co17) ∧ nB k_ (.slice Ao19 t211.length co19) ∧ nB k_ (.slice Ao22 t217.length co22) ∧ nB k_ (.slice Ao28 t226.length co28) ∧ nB k_ (.slice Ao32 t229.length co32) ∧ k_ ≠ gb216 ∧ k_ ≠ gb225 ∧ k_ ≠ gb234) (.slice Ao25 t220.length co25) t220) := ⟨h4_⟩
             have n5_ : Aside0 (Kd.N k34 34 w45 w.heap.size (fun k_ => nB k_ (v236) ∧ nB k_ (.slice Ao17 t208.length co17) ∧ nB k_ (.slice Ao19 t211.length co19) ∧ nB k_ (.slice Ao22 t217.length co22) ∧ nB k_ (.slice Ao25 t220.length co25) ∧ nB k_ (.slice Ao32 t229.length co32) ∧ k_ ≠ gb216 ∧ k_ ≠ gb225 ∧ k_ ≠ gb234) (.slice Ao28 t226.length co28) t226) := ⟨h5_⟩
             have n6_ : Aside0 (Kd.N k68 68 w45 w.heap.size (fun k_ => nB k_ (v236) ∧ nB k_ (.slice Ao17 t208.length co17) ∧ nB k_ (.slice Ao19 t211.length co19) ∧ nB k_ (.slice Ao22 t217.length co22) ∧ nB k_ (.slice Ao25 t220.length co25) ∧ nB k_ (.slice Ao28 t226.length co28) ∧ k_ ≠ gb216 ∧ k_ ≠ gb225 ∧ k_ ≠ gb234) (.slice Ao32 t229.length co32) t229) := ⟨h6_⟩
             have n7_ : Aside0 (w45.heap[gb216]? = some (.cells #[.slice Ao17 t208.length co17,.slice Ao19 t211.length co19] 26 (0,0))) := ⟨h7_⟩
             have n8_ : Aside0 (w45.heap[gb225]? = some (.cells #[.slice Ao22 t217.length co22,.slice Ao25 t220.length co25] 26 (0,0))) := ⟨h8_⟩
             have n9_ : Aside0 (w45.heap[gb234]? = some (.cells #[.slice Ao28 t226.length co28,.slice Ao32 t229.length co32] 26 (0,0))) := ⟨h9_⟩
             have n10_ : Aside0 (Below w.heap.size w w45) := ⟨h10_⟩
             clear HO_217000 HO_217001 HO_226000 HO_226001 HO_235000 HO_235001 BK216 BK225 BK234 HB h0_ h1_ h2_ h3_ h4_ h5_ h6_ h7_ h8_ h9_ h10_
             have HO237 := n0_
             have HO_217000 := n1_
             have HO_217001 := n2_
             have HO_226000 := n3_
             have HO_226001 := n4_
             have HO_235000 := n5_
             have HO_235001 := n6_
             have BK216 := n7_
             have BK225 := n8_
             have BK234 := n9_
             have HB := n10_
             clear n0_ n1_ n2_ n3_ n4_ n5_ n6_ n7_ n8_ n9_ n10_
             have hHeld : w45.cell? ⟨gb216,0,none⟩ = some (.slice Ao17 t208.length co17) ∧ w45.cell? ⟨gb216,1,none⟩ = some (.slice Ao19 t211.length co19) ∧ w45.cell? ⟨gb225,0,none⟩ = some (.slice Ao22 t217.length co22) ∧ w45.cell? ⟨gb225,1,none⟩ = some (.slice Ao25 t220.length co25) := hS_
             refine norm_ (a' := ?_) ?_ ?_
             rotate_left
             ·simp only [putAll,Act.put,List.setIfInBounds_toArray,List.set_cons_zero,List.set_cons_succ]
              rfl
             refine two_ (i := 5) (j := 13) (Ni := some 66) (Nj := some 15) #[true,true,true,true,true,true,true,true,false,true,true,false,false,false,false] #[true,true,true,true,true,false,true,true,false,true,true,false,false,true,false] rfl rfl rfl rfl (two_of HT_.out (by kernel_rfl)) (by decide) (by decide) (fun K hK => ?_) (fun K hK => ?_)
             ·skip
              refine Kd.N_append_rows_step k34 (w0 := w) w.heap.size (by rfl) (.tmp 63) (.tmp 65) 23 34 (.agg #[(.string ⟨#[]⟩),(.slice none 0 0),(.slice none 0 0),(.slice none 0 0),(.int .i64 0)]) 96 rfl Tryz.underlying23 info34 rfl (by decide) (by omega) v236 y235 t217 _ _ _ (fun k_ => nB k_ (.slice Ao19 t211.length co19) ∧ nB k_ (.slice Ao25 t220.length co25) ∧ nB k_ (.slice Ao28 t226.length co28) ∧ nB k_ (.slice Ao32 t229.length co32) ∧ k_ ≠ gb216 ∧ k_ ≠ gb225 ∧ k_ ≠ gb234) (fun k_ => ((fun k_ => nB k_ (.slice Ao19 t211.length co19) ∧ nB k_ (.slice Ao25 t220.length co25) ∧ nB k_ (.slice Ao28 t226.length co28) ∧ nB k_ (.slice Ao32 t229.length co32) ∧ k_ ≠ gb216 ∧ k_ ≠ gb225 ∧ k_ ≠ gb234)) k_ ∧ nB k_ (v236)) rfl rfl ?aO ?aR (fun _ hk => hk) ?aF ?aB ?aS ?aL ?_
              (case aR => exact (by skip;exact Kd.N_F (Kd.N_mono (ok' := (fun k_ => ((fun k_ => nB k_ (.slice Ao19 t211.length co19) ∧ nB k_ (.slice Ao25 t220.length co25) ∧ nB k_ (.slice Ao28 t226.length co28) ∧ nB k_ (.slice Ao32 t229.length co32) ∧ k_ ≠ gb216 ∧ k_ ≠ gb225 ∧ k_ ≠ gb234)) k_ ∧ nB k_ (v236))) (HO_226000.out) (fun k_ hk => ⟨⟨hk.2.2.1,⟨hk.2.2.2.1,⟨hk.2.2.2.2.1,⟨hk.2.2.2.2.2.1,⟨hk.2.2.2.2.2.2.1,⟨hk.2.2.2.2.2.2.2.1,hk.2.2.2.2.2.2.2.2⟩⟩⟩⟩⟩⟩,hk.1⟩))))
              (case aB => exact (by repeat (with_reducible first | exact HB.out | apply Y3 | apply Y1 | apply Y2 | refine Y4 ?_ GE216.out | refine Y4 ?_ GE225.out | refine Y4 ?_ GE234.out)))
              (case aF => exact (fun k_ hk => ⟨Kd.fresh' (Kd.N_lt (by (with_reducible repeat (first | apply Y20));exact HO_217001.out)) k_ hk,Kd.fresh' (Kd.N_lt (by (with_reducible repeat (first | apply Y20));exact HO_226001.out)) k_ hk,Kd.fresh' (Kd.N_lt (by (with_reducible repeat (first | apply Y20));exact HO_235000.out)) k_ hk,Kd.fresh' (Kd.N_lt (by (with_reducible repeat (first | apply Y20));exact HO_235001.out)) k_ hk,Kd.freshB (g := gb216) (o := .cells #[.slice Ao17 t208.length co17,.slice Ao19 t211.length co19] 26 (0,0)) (by (with_reducible repeat first | apply Y11 | apply Y13 | apply Y12);exact BK216.out) k_ hk,Kd.freshB (g := gb225) (o := .cells #[.slice Ao22 t217.length co22,.slice Ao25 t220.length co25] 26 (0,0)) (by (with_reducible repeat first | apply Y11 | apply Y13 | apply Y12);exact BK225.out) k_ hk,Kd.freshB (g := gb234) (o := .cells #[.slice Ao28 t226.length co28,.slice Ao32 t229.length co32] 26 (0,0)) (by (with_reducible repeat first | apply Y11 | apply Y13 | apply Y12);exact BK234.out) k_ hk⟩))
              (case aO => exact (by (with_reducible repeat (first | apply Y20));exact Kd.N_mono HO237.out (fun _ hk => ⟨hk.1,⟨hk.2.2.1,⟨hk.2.2.2.1,⟨hk.2.2.2.2.1,⟨hk.2.2.2.2.2.1,⟨hk.2.2.2.2.2.2.1,hk.2.2.2.2.2.2.2⟩⟩⟩⟩⟩⟩)))
              (case aS => exact (below_size (by repeat (with_reducible first | exact HB.out | apply Y3 | apply Y1 | apply Y2 | refine Y4 ?_ GE216.out | refine Y4 ?_ GE225.out | refine Y4 ?_ GE234.out))))
              (case aL => have := LMc37.out;omega)
              intro v239 w46 ho hb hg hat
              rw [← Ny238.out] at ho
              have n0_ := Y0 (Kd.N_afterv (ok := (fun k_ => nB k_ (.slice Ao19 t211.length co19) ∧ nB k_ (.slice Ao22 t217.length co22) ∧ nB k_ (.slice Ao25 t220.length co25) ∧ nB k_ (.slice Ao28 t226.length co28) ∧ nB k_ (.slice Ao32 t229.length co32) ∧ k_ ≠ gb216 ∧ k_ ≠ gb225 ∧ k_ ≠ gb234)) (by (with_reducible repeat (first | apply Y20));exact Kd.N_mono HO_217000.out (fun _ hk => ⟨⟨hk.2.1,⟨hk.2.2.1,⟨hk.2.2.2.1,⟨hk.2.2.2.2.1,⟨hk.2.2.2.2.2.1,⟨hk.2.2.2.2.2.2.1,⟨hk.2.2.2.2.2.2.2.1,hk.2.2.2.2.2.2.2.2⟩⟩⟩⟩⟩⟩⟩,hk.1⟩)) hg hat)
              have n1_ := Y0 (Kd.N_afterv (ok := (fun k_ => nB k_ (.slice Ao17 t208.length co17) ∧ nB k_ (.slice Ao22 t217.length co22) ∧ nB k_ (.slice Ao25 t220.length co25) ∧ nB k_ (.slice Ao28 t226.length co28) ∧ nB k_ (.slice Ao32 t229.length co32) ∧ k_ ≠ gb216 ∧ k_ ≠ gb225 ∧ k_ ≠ gb234)) (by (with_reducible repeat (first | apply Y20));exact Kd.N_mono HO_217001.out (fun _ hk => ⟨⟨hk.2.1,⟨hk.2.2.1,⟨hk.2.2.2.1,⟨hk.2.2.2.2.1,⟨hk.2.2.2.2.2.1,⟨hk.2.2.2.2.2.2.1,⟨hk.2.2.2.2.2.2.2.1,hk.2.2.2.2.2.2.2.2⟩⟩⟩⟩⟩⟩⟩,hk.1⟩)) hg hat)
              have n2_ := Y0 (Kd.N_afterv (ok := (fun k_ => nB k_ (.slice Ao17 t208.length co17) ∧ nB k_ (.slice Ao19 t211.length co19) ∧ nB k_ (.slice Ao25 t220.length co25) ∧ nB k_ (.slice Ao28 t226.length co28) ∧ nB k_ (.slice Ao32 t229.length co32) ∧ k_ ≠ gb216 ∧ k_ ≠ gb225 ∧ k_ ≠ gb234)) (by (with_reducible repeat (first | apply Y20));exact Kd.N_mono HO_226000.out (fun _ hk => ⟨⟨hk.2.1,⟨hk.2.2.1,⟨hk.2.2.2.1,⟨hk.2.2.2.2.1,⟨hk.2.2.2.2.2.1,⟨hk.2.2.2.2.2.2.1,⟨hk.2.2.2.2.2.2.2.1,hk.2.2.2.2.2.2.2.2⟩⟩⟩⟩⟩⟩⟩,hk.1⟩)) hg hat)
              have n3_ := Y0 (Kd.N_afterv (ok := (fun k_ => nB k_ (.slice Ao17 t208.length co17) ∧ nB k_ (.slice Ao19 t211.length co19) ∧ nB k_ (.slice Ao22 t217.length co22) ∧ nB k_ (.slice Ao28 t226.length co28) ∧ nB k_ (.slice Ao32 t229.length co32) ∧ k_ ≠ gb216 ∧ k_ ≠ gb225 ∧ k_ ≠ gb234)) (by (with_reducible repeat (first | apply Y20));exact Kd.N_mono HO_226001.out (fun _ hk => ⟨⟨hk.2.1,⟨hk.2.2.1,⟨hk.2.2.2.1,⟨hk.2.2.2.2.1,⟨hk.2.2.2.2.2.1,⟨hk.2.2.2.2.2.2.1,⟨hk.2.2.2.2.2.2.2.1,hk.2.2.2.2.2.2.2.2⟩⟩⟩⟩⟩⟩⟩,hk.1⟩)) hg hat)
              have n4_ := Y0 (Kd.N_afterv (ok := (fun k_ => nB k_ (.slice Ao17 t208.length co17) ∧ nB k_ (.slice Ao19 t211.length co19) ∧ nB k_ (.slice Ao22 t217.length co22) ∧ nB k_ (.slice Ao25 t220.length co25) ∧ nB k_ (.slice Ao32 t229.length co32) ∧ k_ ≠ gb216 ∧ k_ ≠ gb225 ∧ k_ ≠ gb234)) (by (with_reducible repeat (first | apply Y20));exact Kd.N_mono HO_235000.out (fun _ hk => ⟨⟨hk.2.1,⟨hk.2.2.1,⟨hk.2.2.2.1,⟨hk.2.2.2.2.1,⟨hk.2.2.2.2.2.1,⟨hk.2.2.2.2.2.2.1,⟨hk.2.2.2.2.2.2.2.1,hk.2.2.2.2.2.2.2.2⟩⟩⟩⟩⟩⟩⟩,hk.1⟩)) hg hat)
              have n5_ := Y0 (Kd.N_afterv (ok := (fun k_ => nB k_ (.slice Ao17 t208.length co17) ∧ nB k_ (.slice Ao19 t211.length co19) ∧ nB k_ (.slice Ao22 t217.length co22) ∧ nB k_ (.slice Ao25 t220.length co25) ∧ nB k_ (.slice Ao28 t226.length co28) ∧ k_ ≠ gb216 ∧ k_ ≠ gb225 ∧ k_ ≠ gb234)) (by (with_reducible repeat (first | apply Y20));exact Kd.N_mono HO_235001.out (fun _ hk => ⟨⟨hk.2.1,⟨hk.2.2.1,⟨hk.2.2.2.1,⟨hk.2.2.2.2.1,⟨hk.2.2.2.2.2.1,⟨hk.2.2.2.2.2.2.1,⟨hk.2.2.2.2.2.2.2.1,hk.2.2.2.2.2.2.2.2⟩⟩⟩⟩⟩⟩⟩,hk.1⟩)) hg hat)
              have n6_ := Y0 (blk_grown (g := gb216) (o := .cells #[.slice Ao17 t208.length co17,.slice Ao19 t211.length co19] 26 (0,0)) (by (with_reducible repeat first | apply Y11 | apply Y13 | apply Y12);exact BK216.out) hg (Kd.N_ne HO237.out BK216.out (by decide)))
              have n7_ := Y0 (blk_grown (g := gb225) (o := .cells #[.slice Ao22 t217.length co22,.slice Ao25 t220.length co25] 26 (0,0)) (by (with_reducible repeat first | apply Y11 | apply Y13 | apply Y12);exact BK225.out) hg (Kd.N_ne HO237.out BK225.out (by decide)))
              have n8_ := Y0 (blk_grown (g := gb234) (o := .cells #[.slice Ao28 t226.length co28,.slice Ao32 t229.length co32] 26 (0,0)) (by (with_reducible repeat first | apply Y11 | apply Y13 | apply Y12);exact BK234.out) hg (Kd.N_ne HO237.out BK234.out (by decide)))
              have n9_ := Y0 (hb)
              have n10_ := Y0 (ho)
              clear HO_217000 HO_217001 HO_226000 HO_226001 HO_235000 HO_235001 BK216 BK225 BK234 HB HO237
              have HO_217000 := n0_
              have HO_217001 := n1_
              have HO_226000 := n2_
              have HO_226001 := n3_
              have HO_235000 := n4_
              have HO_235001 := n5_
              have BK216 := n6_
              have BK225 := n7_
              have BK234 := n8_
              have HB := n9_
              have HO240 := n10_
              clear n0_ n1_ n2_ n3_ n4_ n5_ n6_ n7_ n8_ n9_ n10_ ho hb hg hat
              refine hK.out _ _ ⟨(blk_cell BK216.out 0).trans rfl,(blk_cell BK216.out 1).trans rfl,(blk_cell BK225.out 0).trans rfl,(blk_cell BK225.out 1).trans rfl⟩ (fun hHeld => ?_)
              clear hK K
              refine norm_ (a' := ?_) ?_ ?_
              rotate_left
              ·show Act.put _ (some 66) _ = _
               simp only [Act.put,Y14,Y15,Y16]
               rfl
              exact norm_ (by first | (simp only [putAll,Act.put,List.setIfInBounds_toArray,List.set_cons_zero,List.set_cons_succ];done) | (simp only [putAll,Act.put,List.setIfInBounds_toArray,List.set_cons_zero,List.set_cons_succ];rfl)) (hJ2_5 (v236,v239) _ ⟨hHeld,(by (with_reducible repeat (first | apply Y20));exact HO240.out),(by (with_reducible repeat (first | apply Y20));exact Kd.N_mono HO_217000.out (fun _ hk => ⟨hk.2,⟨hk.1.1,⟨hk.1.2.1,⟨hk.1.2.2.1,⟨hk.1.2.2.2.1,⟨hk.1.2.2.2.2.1,⟨hk.1.2.2.2.2.2.1,⟨hk.1.2.2.2.2.2.2.1,hk.1.2.2.2.2.2.2.2⟩⟩⟩⟩⟩⟩⟩⟩)),(by (with_reducible repeat (first | apply Y20));exact Kd.N_mono HO_217001.out (fun _ hk => ⟨hk.2,⟨hk.1.1,⟨hk.1.2.1,⟨hk.1.2.2.1,⟨hk.1.2.2.2.1,⟨hk.1.2.2.2.2.1,⟨hk.1.2.2.2.2.2.1,⟨hk.1.2.2.2.2.2.2.1,hk.1.2.2.2.2.2.2.2⟩⟩⟩⟩⟩⟩⟩⟩)),(by (with_reducible repeat (first | apply Y20));exact Kd.N_mono HO_226000.out (fun _ hk => ⟨hk.2,⟨hk.1.1,⟨hk.1.2.1,⟨hk.1.2.2.1,⟨hk.1.2.2.2.1,⟨hk.1.2.2.2.2.1,⟨hk.1.2.2.2.2.2.1,⟨hk.1.2.2.2.2.2.2.1,hk.1.2.2.2.2.2.2.2⟩⟩⟩⟩⟩⟩⟩⟩)),(by (with_reducible repeat (first | apply Y20));exact Kd.N_mono HO_226001.out (fun _ hk => ⟨hk.2,⟨hk.1.1,⟨hk.1.2.1,⟨hk.1.2.2.1,⟨hk.1.2.2.2.1,⟨hk.1.2.2.2.2.1,⟨hk.1.2.2.2.2.2.1,⟨hk.1.2.2.2.2.2.2.1,hk.1.2.2.2.2.2.2.2⟩⟩⟩⟩⟩⟩⟩⟩)),(by (with_reducible repeat (first | apply Y20));exact Kd.N_mono HO_235000.out (fun _ hk => ⟨hk.2,⟨hk.1.1,⟨hk.1.2.1,⟨hk.1.2.2.1,⟨hk.1.2.2.2.1,⟨hk.1.2.2.2.2.1,⟨hk.1.2.2.2.2.2.1,⟨hk.1.2.2.2.2.2.2.1,hk.1.2.2.2.2.2.2.2⟩⟩⟩⟩⟩⟩⟩⟩)),(by (with_reducible repeat (first | apply Y20));exact Kd.N_mono HO_235001.out (fun _ hk => ⟨hk.2,⟨hk.1.1,⟨hk.1.2.1,⟨hk.1.2.2.1,⟨hk.1.2.2.2.1,⟨hk.1.2.2.2.2.1,⟨hk.1.2.2.2.2.2.1,⟨hk.1.2.2.2.2.2.2.1,hk.1.2.2.2.2.2.2.2⟩⟩⟩⟩⟩⟩⟩⟩)),(by (with_reducible repeat first | apply Y11 | apply Y13 | apply Y12);exact BK216.out),(by (with_reducible repeat first | apply Y11 | apply Y13 | apply Y12);exact BK225.out),(by (with_reducible repeat first | apply Y11 | apply Y13 | apply Y12);exact BK234.out),(by repeat (with_reducible first | exact HB.out | apply Y3 | apply Y1 | apply Y2 | refine Y4 ?_ GE216.out | refine Y4 ?_ GE225.out | refine Y4 ?_ GE234.out))⟩)
             ·skip
              refine box_step ?hg (N := 15) ?hd (cs := #[.slice none 0 0,.slice none 0 0]) (t := 26) ?hr ?_;(case hd => rfl);(case hg => rfl);(case hr => first | (go_simp;done) | (go_simp;rfl))
              intro gb247 hg w46 hbox hb
              have n0_ := Y0 (Kd.N_below (Kd.N_elderB (by (with_reducible repeat (first | apply Y20));exact HO_217000.out) gb247 (Nat.le_of_eq hg.symm)) hb)
              have n1_ := Y0 (Kd.N_below (Kd.N_elderB (by (with_reducible repeat (first | apply Y20));exact HO_217001.out) gb247 (Nat.le_of_eq hg.symm)) hb)
              have n2_ := Y0 (Kd.N_below (Kd.N_elderB (by (with_reducible repeat (first | apply Y20));exact HO_226000.out) gb247 (Nat.le_of_eq hg.symm)) hb)
              have n3_ := Y0 (Kd.N_below (Kd.N_elderB (by (with_reducible repeat (first | apply Y20));exact HO_226001.out) gb247 (Nat.le_of_eq hg.symm)) hb)
              have n4_ := Y0 (Kd.N_below (Kd.N_elderB (by (with_reducible repeat (first | apply Y20));exact HO_235000.out) gb247 (Nat.le_of_eq hg.symm)) hb)
              have n5_ := Y0 (Kd.N_below (Kd.N_elderB (by (with_reducible repeat (first | apply Y20));exact HO_235001.out) gb247 (Nat.le_of_eq hg.symm)) hb)
              have n6_ := Y0 (Kd.N_below (Kd.N_elderB (by (with_reducible repeat (first | apply Y20));exact HO237.out) gb247 (Nat.le_of_eq hg.symm)) hb)
              have n7_ := Y0 (blk_below (g := gb216) (o := .cells #[.slice Ao17 t208.length co17,.slice Ao19 t211.length co19] 26 (0,0)) (by (with_reducible repeat first | apply Y11 | apply Y13 | apply Y12);exact BK216.out) hb)
              have n8_ := Y0 (blk_below (g := gb225) (o := .cells #[.slice Ao22 t217.length co22,.slice Ao25 t220.length co25] 26 (0,0)) (by (with_reducible repeat first | apply Y11 | apply Y13 | apply Y12);exact BK225.out) hb)
              have n9_ := Y0 (blk_below (g := gb234) (o := .cells #[.slice Ao28 t226.length co28,.slice Ao32 t229.length co32] 26 (0,0)) (by (with_reducible repeat first | apply Y11 | apply Y13 | apply Y12);exact BK234.out) hb)
              have n10_ := Y0 (below_step (by repeat (with_reducible first | exact HB.out | apply Y3 | apply Y1 | apply Y2 | refine Y4 ?_ GE216.out | refine Y4 ?_ GE225.out | refine Y4 ?_ GE234.out)) hb)
              have n11_ := Y0 (hbox)
              have n12_ := Y0 ((by rw [hg];exact (below_size (by repeat (with_reducible first | exact HB.out | apply Y3 | apply Y1 | apply Y2 | refine Y4 ?_ GE216.out | refine Y4 ?_ GE225.out | refine Y4 ?_ GE234.out))) : w.heap.size ≤ gb247))
              have n13_ := Y0 ((by rw [hg];exact (below_size (by repeat (with_reducible first | exact HB.out | apply Y3 | apply Y1 | apply Y2 | refine Y4 ?_ GE216.out | refine Y4 ?_ GE225.out | refine Y4 ?_ GE234.out))) : w.heap.size ≤ gb247))
              have n14_ := Y0 ((by rw [hg];exact Nat.ne_of_lt (blk_lt (g := gb216) (o := .cells #[.slice Ao17 t208.length co17,.slice Ao19 t211.length co19] 26 (0,0)) (by (with_reducible repeat first | apply Y11 | apply Y13 | apply Y12);exact BK216.out)) : gb216 ≠ gb247))
              have n15_ := Y0 ((by rw [hg];exact Nat.ne_of_gt (blk_lt (g := gb216) (o := .cells #[.slice Ao17 t208.length co17,.slice Ao19 t211.length co19] 26 (0,0)) (by (with_reducible repeat first | apply Y11 | apply Y13 | apply Y12);exact BK216.out)) : gb247 ≠ gb216))
              have n16_ := Y0 ((by rw [hg];exact Nat.ne_of_lt (blk_lt (g := gb225) (o := .cells #[.slice Ao22 t217.length co22,.slice Ao25 t220.length co25] 26 (0,0)) (by (with_reducible repeat first | apply Y11 | apply Y13 | apply Y12);exact BK225.out)) : gb225 ≠ gb247))
              have n17_ := Y0 ((by rw [hg];exact Nat.ne_of_gt (blk_lt (g := gb225) (o := .cells #[.slice Ao22 t217.length co22,.slice Ao25 t220.length co25] 26 (0,0)) (by (with_reducible repeat first | apply Y11 | apply Y13 | apply Y12);exact BK225.out)) : gb247 ≠ gb225))
              have n18_ := Y0 ((by rw [hg];exact Nat.ne_of_lt (blk_lt (g := gb234) (o := .cells #[.slice Ao28 t226.length co28,.slice Ao32 t229.length co32] 26 (0,0)) (by (with_reducible repeat first | apply Y11 | apply Y13 | apply Y12);exact BK234.out)) : gb234 ≠ gb247))
              have n19_ := Y0 ((by rw [hg];exact Nat.ne_of_gt (blk_lt (g := gb234) (o := .cells #[.slice Ao28 t226.length co28,.slice Ao32 t229.length co32] 26 (0,0)) (by (with_reducible repeat first | apply Y11 | apply Y13 | apply Y12);exact BK234.out)) : gb247 ≠ gb234))
              clear HO_217000 HO_217001 HO_226000 HO_226001 HO_235000 HO_235001 HO237 BK216 BK225 BK234 HB
              have HO_217000 := n0_
              have HO_217001 := n1_
              have HO_226000 := n2_
              have HO_226001 := n3_
              have HO_235000 := n4_
              have HO_235001 := n5_
              have HO237 := n6_
              have BK216 := n7_
              have BK225 := n8_
              have BK234 := n9_
              have HB := n10_
              have BK247 := n11_
              have GW247 := n12_
              have GE247 := n13_
              have NB216_247 := n14_
              have NB247_216 := n15_
              have NB225_247 := n16_
              have NB247_225 := n17_
              have NB234_247 := n18_
              have NB247_234 := n19_
              clear n0_ n1_ n2_ n3_ n4_ n5_ n6_ n7_ n8_ n9_ n10_ n11_ n12_ n13_ n14_ n15_ n16_ n17_ n18_ n19_ hb hbox hg
              refine hK.out _ _ ⟨(blk_cell BK216.out 0).trans rfl,(blk_cell BK216.out 1).trans rfl,(blk_cell BK225.out 0).trans rfl,(blk_cell BK225.out 1).trans rfl⟩ (fun hHeld => ?_)
              clear hK K
              refine norm_ (a' := ?_) ?_ ?_
              rotate_left
              ·show Act.put _ (some 15) _ = _
               simp only [Act.put,Y14,Y15,Y16]
               rfl
              exact norm_ (by first | (simp only [putAll,Act.put,List.setIfInBounds_toArray,List.set_cons_zero,List.set_cons_succ];done) | (simp only [putAll,Act.put,List.setIfInBounds_toArray,List.set_cons_zero,List.set_cons_succ];rfl)) (hJ2_13 (v236,gb247) _ ⟨hHeld,(by (with_reducible repeat (first | apply Y20));exact Kd.N_mono HO237.out (fun _ hk => ⟨hk.1.1,⟨hk.1.2.1,⟨hk.1.2.2.1,⟨hk.1.2.2.2.1,⟨hk.1.2.2.2.2.1,⟨hk.1.2.2.2.2.2.1,⟨hk.1.2.2.2.2.2.2.1,⟨hk.1.2.2.2.2.2.2.2,hk.2⟩⟩⟩⟩⟩⟩⟩⟩)),(by (with_reducible repeat (first | apply Y20));exact Kd.N_mono HO_217000.out (fun _ hk => ⟨hk.1.1,⟨hk.1.2.1,⟨hk.1.2.2.1,⟨hk.1.2.2.2.1,⟨hk.1.2.2.2.2.1,⟨hk.1.2.2.2.2.2.1,⟨hk.1.2.2.2.2.2.2.1,⟨hk.1.2.2.2.2.2.2.2.1,⟨hk.1.2.2.2.2.2.2.2.2,hk.2⟩⟩⟩⟩⟩⟩⟩⟩⟩)),(by (with_reducible repeat (first | apply Y20));exact Kd.N_mono HO_217001.out (fun _ hk => ⟨hk.1.1,⟨hk.1.2.1,⟨hk.1.2.2.1,⟨hk.1.2.2.2.1,⟨hk.1.2.2.2.2.1,⟨hk.1.2.2.2.2.2.1,⟨hk.1.2.2.2.2.2.2.1,⟨hk.1.2.2.2.2.2.2.2.1,⟨hk.1.2.2.2.2.2.2.2.2,hk.2⟩⟩⟩⟩⟩⟩⟩⟩⟩)),(by (with_reducible repeat (first | apply Y20));exact Kd.N_mono HO_226000.out (fun _ hk => ⟨hk.1.1,⟨hk.1.2.1,⟨hk.1.2.2.1,⟨hk.1.2.2.2.1,⟨hk.1.2.2.2.2.1,⟨hk.1.2.2.2.2.2.1,⟨hk.1.2.2.2.2.2.2.1,⟨hk.1.2.2.2.2.2.2.2.1,⟨hk.1.2.2.2.2.2.2.2.2,hk.2⟩⟩⟩⟩⟩⟩⟩⟩⟩)),(by (with_reducible repeat (first | apply Y20));exact Kd.N_mono HO_226001.out (fun _ hk => ⟨hk.1.1,⟨hk.1.2.1,⟨hk.1.2.2.1,⟨hk.1.2.2.2.1,⟨hk.1.2.2.2.2.1,⟨hk.1.2.2.2.2.2.1,⟨hk.1.2.2.2.2.2.2.1,⟨hk.1.2.2.2.2.2.2.2.1,⟨hk.1.2.2.2.2.2.2.2.2,hk.2⟩⟩⟩⟩⟩⟩⟩⟩⟩)),(by (with_reducible repeat (first | apply Y20));exact Kd.N_mono HO_235000.out (fun _ hk => ⟨hk.1.1,⟨hk.1.2.1,⟨hk.1.2.2.1,⟨hk.1.2.2.2.1,⟨hk.1.2.2.2.2.1,⟨hk.1.2.2.2.2.2.1,⟨hk.1.2.2.2.2.2.2.1,⟨hk.1.2.2.2.2.2.2.2.1,⟨hk.1.2.2.2.2.2.2.2.2,hk.2⟩⟩⟩⟩⟩⟩⟩⟩⟩)),(by (with_reducible repeat (first | apply Y20));exact Kd.N_mono HO_235001.out (fun _ hk => ⟨hk.1.1,⟨hk.1.2.1,⟨hk.1.2.2.1,⟨hk.1.2.2.2.1,⟨hk.1.2.2.2.2.1,⟨hk.1.2.2.2.2.2.1,⟨hk.1.2.2.2.2.2.2.1,⟨hk.1.2.2.2.2.2.2.2.1,⟨hk.1.2.2.2.2.2.2.2.2,hk.2⟩⟩⟩⟩⟩⟩⟩⟩⟩)),(by (with_reducible repeat first | apply Y11 | apply Y13 | apply Y12);exact BK216.out),(by (with_reducible repeat first | apply Y11 | apply Y13 | apply Y12);exact BK225.out),(by (with_reducible repeat first | apply Y11 | apply Y13 | apply Y12);exact BK234.out),(by (with_reducible repeat first | apply Y11 | apply Y13 | apply Y12);exact BK247.out),GW247.out,GE247.out,NB216_247.out,NB247_216.out,NB225_247.out,NB247_225.out,NB234_247.out,NB247_234.out,(by repeat (with_reducible first | exact HB.out | apply Y3 | apply Y1 | apply Y2 | refine Y4 ?_ GE216.out | refine Y4 ?_ GE225.out | refine Y4 ?_ GE234.out | refine Y4 ?_ GE247.out))⟩)
           ·skip
            rintro ⟨v236,gb247⟩ w46 ⟨hS_,h0_,h1_,h2_,h3_,h4_,h5_,h6_,h7_,h8_,h9_,h10_,h11_,h12_,h13_,h14_,h15_,h16_,h17_,h18_,h19_⟩
            have n0_ : Aside0 (Kd.N k34 34 w46 w.heap.size (fun k_ => nB k_ (.slice Ao19 t211.length co19) ∧ nB k_ (.slice Ao22 t217.length co22) ∧ nB k_ (.slice Ao25 t220.length co25) ∧ nB k_ (.slice Ao28 t226.length co28) ∧ nB k_ (.slice Ao32 t229.length co32) ∧ k_ ≠ gb216 ∧ k_ ≠ gb225 ∧ k_ ≠ gb234 ∧ k_ ≠ gb247) v236 y235) := ⟨h0_⟩
            have n1_ : Aside0 (Kd.N k34 34 w46 w.heap.size (fun k_ => nB k_ (v236) ∧ nB k_ (.slice Ao19 t211.length co19) ∧ nB k_ (.slice Ao22 t217.length co22) ∧ nB k_ (.slice Ao25 t220.length co25) ∧ nB k_ (.slice Ao28 t226.length co28) ∧ nB k_ (.slice Ao32 t229.length co32) ∧ k_ ≠ gb216 ∧ k_ ≠ gb225 ∧ k_ ≠ gb234 ∧ k_ ≠ gb247) (.slice Ao17 t208.length co17) t208) := ⟨h1_⟩
            have n2_ : Aside0 (Kd.N k68 68 w46 w.heap.size (fun k_ => nB k_ (v236) ∧ nB k_ (.slice Ao17 t208.length co17) ∧ nB k_ (.slice Ao22 t217.length co22) ∧ nB k_ (.slice Ao25 t220.length co25) ∧ nB k_ (.slice Ao28 t226.length co28) ∧ nB k_ (.slice Ao32 t229.length co32) ∧ k_ ≠ gb216 ∧ k_ ≠ gb225 ∧ k_ ≠ gb234 ∧ k_ ≠ gb247) (.slice Ao19 t211.length co19) t211) := ⟨h2_⟩
            have n3_ : Aside0 (Kd.N k34 34 w46 w.heap.size (fun k_ => nB k_ (v236) ∧ nB k_ (.slice Ao17 t208.length co17) ∧ nB k_ (.slice Ao19 t211.length co19) ∧ nB k_ (.slice Ao25 t220.length co25) ∧ nB k_ (.slice Ao28 t226.length co28) ∧ nB k_ (.slice Ao32 t229.length co32) ∧ k_ ≠ gb216 ∧ k_ ≠ gb225 ∧ k_ ≠ gb234 ∧ k_ ≠ gb247) (.slice Ao22 t217.length co22) t217) := ⟨h3_⟩
            have n4_ : Aside0 (Kd.N k68 68 w46 w.heap.size (fun k_ => nB k_ (v236) ∧ nB k_ (.slice Ao17 t208.length co17) ∧ nB k_ (.slice Ao19 t211.length co19) ∧ nB k_ (.slice Ao22 t217.length co22) ∧ nB k_ (.slice Ao28 t226.length co28) ∧ nB k_ (.slice Ao32 t229.length co32) ∧ k_ ≠ gb216 ∧ k_ ≠ gb225 ∧ k_ ≠ gb234 ∧ k_ ≠ gb247) (.slice Ao25 t220.length co25) t220) := ⟨h4_⟩
            have n5_ : Aside0 (Kd.N k34 34 w46 w.heap.size (fun k_ => nB k_ (v236) ∧ nB k_ (.slice Ao17 t208.length co17) ∧ nB k_ (.slice Ao19 t211.length co19) ∧ nB k_ (.slice Ao22 t217.length co22) ∧ nB k_ (.slice Ao25 t220.length co25) ∧ nB k_ (.slice Ao32 t229.length co32) ∧ k_ ≠ gb216 ∧ k_ ≠ gb225 ∧ k_ ≠ gb234 ∧ k_ ≠ gb247) (.slice Ao28 t226.length co28) t226) := ⟨h5_⟩
            have n6_ : Aside0 (Kd.N k68 68 w46 w.heap.size (fun k_ => nB k_ (v236) ∧ nB k_ (.slice Ao17 t208.length co17) ∧ nB k_ (.slice Ao19 t211.length co19) ∧ nB k_ (.slice Ao22 t217.length co22) ∧ nB k_ (.slice Ao25 t220.length co25) ∧ nB k_ (.slice Ao28 t226.length co28) ∧ k_ ≠ gb216 ∧ k_ ≠ gb225 ∧ k_ ≠ gb234 ∧ k_ ≠ gb247) (.slice Ao32 t229.length co32) t229) := ⟨h6_⟩
            have n7_ : Aside0 (w46.heap[gb216]? = some (.cells #[.slice Ao17 t208.length co17,.slice Ao19 t211.length co19] 26 (0,0))) := ⟨h7_⟩
            have n8_ : Aside0 (w46.heap[gb225]? = some (.cells #[.slice Ao22 t217.length co22,.slice Ao25 t220.length co25] 26 (0,0))) := ⟨h8_⟩
            have n9_ : Aside0 (w46.heap[gb234]? = some (.cells #[.slice Ao28 t226.length co28,.slice Ao32 t229.length co32] 26 (0,0))) := ⟨h9_⟩
            have n10_ : Aside0 (w46.heap[gb247]? = some (.cells #[.slice none 0 0,.slice none 0 0] 26 (0,0))) := ⟨h10_⟩
            have n11_ : Aside0 (w.heap.size ≤ gb247) := ⟨h11_⟩
            have n12_ : Aside0 (w.heap.size ≤ gb247) := ⟨h12_⟩
            have n13_ : Aside0 (gb216 ≠ gb247) := ⟨h13_⟩
            have n14_ : Aside0 (gb247 ≠ gb216) := ⟨h14_⟩
            have n15_ : Aside0 (gb225 ≠ gb247) := ⟨h15_⟩
            have n16_ : Aside0 (gb247 ≠ gb225) := ⟨h16_⟩
            have n17_ : Aside0 (gb234 ≠ gb247) := ⟨h17_⟩
            have n18_ : Aside0 (gb247 ≠ gb234) := ⟨h18_⟩
            have n19_ : Aside0 (Below w.heap.size w w46) := ⟨h19_⟩
            clear HO_217000 HO_217001 HO_226000 HO_226001 HO_235000 HO_235001 BK216 BK225 BK234 HB h0_ h1_ h2_ h3_ h4_ h5_ h6_ h7_ h8_ h9_ h10_ h11_ h12_ h13_ h14_ h15_ h16_ h17_ h18_ h19_
            have HO237 := n0_
            have HO_217000 := n1_
            have HO_217001 := n2_
            have HO_226000 := n3_
            have HO_226001 := n4_
            have HO_235000 := n5_
            have HO_235001 := n6_
            have BK216 := n7_
            have BK225 := n8_
            have BK234 := n9_
            have BK247 := n10_
            have GW247 := n11_
            have GE247 := n12_
            have NB216_247 := n13_
            have NB247_216 := n14_
            have NB225_247 := n15_
            have NB247_225 := n16_
            have NB234_247 := n17_
            have NB247_234 := n18_
            have HB := n19_
            clear n0_ n1_ n2_ n3_ n4_ n5_ n6_ n7_ n8_ n9_ n10_ n11_ n12_ n13_ n14_ n15_ n16_ n17_ n18_ n19_
            have hHeld : w46.cell? ⟨gb216,0,none⟩ = some (.slice Ao17 t208.length co17) ∧ w46.cell? ⟨gb216,1,none⟩ = some (.slice Ao19 t211.length co19) ∧ w46.cell? ⟨gb225,0,none⟩ = some (.slice Ao22 t217.length co22) ∧ w46.cell? ⟨gb225,1,none⟩ = some (.slice Ao25 t220.length co25) := hS_
            refine norm_ (a' := ?_) ?_ ?_
            rotate_left
            ·simp only [putAll,Act.put,List.setIfInBounds_toArray,List.set_cons_zero,List.set_cons_succ]
             rfl
            refine one_ (i := 5) (N := some 66) (sqB 15 9983) rfl rfl (one_of HT_.out (by kernel_rfl)) (by decide) (fun K hK => ?_)
            refine Kd.N_append_rows_step k34 (w0 := w) w.heap.size (by rfl) (.tmp 63) (.tmp 65) 23 34 (.agg #[(.string ⟨#[]⟩),(.slice none 0 0),(.slice none 0 0),(.slice none 0 0),(.int .i64 0)]) 96 rfl Tryz.underlying23 info34 rfl (by decide) (by omega) v236 y235 t217 _ _ _ (fun k_ => nB k_ (.slice Ao19 t211.length co19) ∧ nB k_ (.slice Ao25 t220.length co25) ∧ nB k_ (.slice Ao28 t226.length co28) ∧ nB k_ (.slice Ao32 t229.length co32) ∧ k_ ≠ gb216 ∧ k_ ≠ gb225 ∧ k_ ≠ gb234 ∧ k_ ≠ gb247) (fun k_ => ((fun k_ => nB k_ (.slice Ao19 t211.length co19) ∧ nB k_ (.slice Ao25 t220.length co25) ∧ nB k_ (.slice Ao28 t226.length co28) ∧ nB k_ (.slice Ao32 t229.length co32) ∧ k_ ≠ gb216 ∧ k_ ≠ gb225 ∧ k_ ≠ gb234 ∧ k_ ≠ gb247)) k_ ∧ nB k_ (v236)) rfl rfl ?aO ?aR (fun _ hk => hk) ?aF ?aB ?aS ?aL ?_
            (case aR => exact (by skip;exact Kd.N_F (Kd.N_mono (ok' := (fun k_ => ((fun k_ => nB k_ (.slice Ao19 t211.length co19) ∧ nB k_ (.slice Ao25 t220.length co25) ∧ nB k_ (.slice Ao28 t226.length co28) ∧ nB k_ (.slice Ao32 t229.length co32) ∧ k_ ≠ gb216 ∧ k_ ≠ gb225 ∧ k_ ≠ gb234 ∧ k_ ≠ gb247)) k_ ∧ nB k_ (v236))) (HO_226000.out) (fun k_ hk => ⟨⟨hk.2.2.1,⟨hk.2.2.2.1,⟨hk.2.2.2.2.1,⟨hk.2.2.2.2.2.1,⟨hk.2.2.2.2.2.2.1,⟨hk.2.2.2.2.2.2.2.1,⟨hk.2.2.2.2.2.2.2.2.1,hk.2.2.2.2.2.2.2.2.2⟩⟩⟩⟩⟩⟩⟩,hk.1⟩))))
            (case aB => exact (by repeat (with_reducible first | exact HB.out | apply Y3 | apply Y1 | apply Y2 | refine Y4 ?_ GE216.out | refine Y4 ?_ GE225.out | refine Y4 ?_ GE234.out | refine Y4 ?_ GE247.out)))
            (case aF => exact (fun k_ hk => ⟨Kd.fresh' (Kd.N_lt (by (with_reducible repeat (first | apply Y20));exact HO_217001.out)) k_ hk,Kd.fresh' (Kd.N_lt (by (with_reducible repeat (first | apply Y20));exact HO_226001.out)) k_ hk,Kd.fresh' (Kd.N_lt (by (with_reducible repeat (first | apply Y20));exact HO_235000.out)) k_ hk,Kd.fresh' (Kd.N_lt (by (with_reducible repeat (first | apply Y20));exact HO_235001.out)) k_ hk,Kd.freshB (g := gb216) (o := .cells #[.slice Ao17 t208.length co17,.slice Ao19 t211.length co19] 26 (0,0)) (by (with_reducible repeat first | apply Y11 | apply Y13 | apply Y12);exact BK216.out) k_ hk,Kd.freshB (g := gb225) (o := .cells #[.slice Ao22 t217.length co22,.slice Ao25 t220.length co25] 26 (0,0)) (by (with_reducible repeat first | apply Y11 | apply Y13 | apply Y12);exact BK225.out) k_ hk,Kd.freshB (g := gb234) (o := .cells #[.slice Ao28 t226.length co28,.slice Ao32 t229.length co32] 26 (0,0)) (by (with_reducible repeat first | apply Y11 | apply Y13 | apply Y12);exact BK234.out) k_ hk,Kd.freshB (g := gb247) (o := .cells #[.slice none 0 0,.slice none 0 0] 26 (0,0)) (by (with_reducible repeat first | apply Y11 | apply Y13 | apply Y12);exact BK247.out) k_ hk⟩))
            (case aO => exact (by (with_reducible repeat (first | apply Y20));exact Kd.N_mono HO237.out (fun _ hk => ⟨hk.1,⟨hk.2.2.1,⟨hk.2.2.2.1,⟨hk.2.2.2.2.1,⟨hk.2.2.2.2.2.1,⟨hk.2.2.2.2.2.2.1,⟨hk.2.2.2.2.2.2.2.1,hk.2.2.2.2.2.2.2.2⟩⟩⟩⟩⟩⟩⟩)))
            (case aS => exact (below_size (by repeat (with_reducible first | exact HB.out | apply Y3 | apply Y1 | apply Y2 | refine Y4 ?_ GE216.out | refine Y4 ?_ GE225.out | refine Y4 ?_ GE234.out | refine Y4 ?_ GE247.out))))
            (case aL => have := LMc37.out;omega)
            intro v239 w47 ho hb hg hat
            rw [← Ny238.out] at ho
            have n0_ := Y0 (Kd.N_afterv (ok := (fun k_ => nB k_ (.slice Ao19 t211.length co19) ∧ nB k_ (.slice Ao22 t217.length co22) ∧ nB k_ (.slice Ao25 t220.length co25) ∧ nB k_ (.slice Ao28 t226.length co28) ∧ nB k_ (.slice Ao32 t229.length co32) ∧ k_ ≠ gb216 ∧ k_ ≠ gb225 ∧ k_ ≠ gb234 ∧ k_ ≠ gb247)) (by (with_reducible repeat (first | apply Y20));exact Kd.N_mono HO_217000.out (fun _ hk => ⟨⟨hk.2.1,⟨hk.2.2.1,⟨hk.2.2.2.1,⟨hk.2.2.2.2.1,⟨hk.2.2.2.2.2.1,⟨hk.2.2.2.2.2.2.1,⟨hk.2.2.2.2.2.2.2.1,⟨hk.2.2.2.2.2.2.2.2.1,hk.2.2.2.2.2.2.2.2.2⟩⟩⟩⟩⟩⟩⟩⟩,hk.1⟩)) hg hat)
            have n1_ := Y0 (Kd.N_afterv (ok := (fun k_ => nB k_ (.slice Ao17 t208.length co17) ∧ nB k_ (.slice Ao22 t217.length co22) ∧ nB k_ (.slice Ao25 t220.length co25) ∧ nB k_ (.slice Ao28 t226.length co28) ∧ nB k_ (.slice Ao32 t229.length co32) ∧ k_ ≠ gb216 ∧ k_ ≠ gb225 ∧ k_ ≠ gb234 ∧ k_ ≠ gb247)) (by (with_reducible repeat (first | apply Y20));exact Kd.N_mono HO_217001.out (fun _ hk => ⟨⟨hk.2.1,⟨hk.2.2.1,⟨hk.2.2.2.1,⟨hk.2.2.2.2.1,⟨hk.2.2.2.2.2.1,⟨hk.2.2.2.2.2.2.1,⟨hk.2.2.2.2.2.2.2.1,⟨hk.2.2.2.2.2.2.2.2.1,hk.2.2.2.2.2.2.2.2.2⟩⟩⟩⟩⟩⟩⟩⟩,hk.1⟩)) hg hat)
            have n2_ := Y0 (Kd.N_afterv (ok := (fun k_ => nB k_ (.slice Ao17 t208.length co17) ∧ nB k_ (.slice Ao19 t211.length co19) ∧ nB k_ (.slice Ao25 t220.length co25) ∧ nB k_ (.slice Ao28 t226.length co28) ∧ nB k_ (.slice Ao32 t229.length co32) ∧ k_ ≠ gb216 ∧ k_ ≠ gb225 ∧ k_ ≠ gb234 ∧ k_ ≠ gb247)) (by (with_reducible repeat (first | apply Y20));exact Kd.N_mono HO_226000.out (fun _ hk => ⟨⟨hk.2.1,⟨hk.2.2.1,⟨hk.2.2.2.1,⟨hk.2.2.2.2.1,⟨hk.2.2.2.2.2.1,⟨hk.2.2.2.2.2.2.1,⟨hk.2.2.2.2.2.2.2.1,⟨hk.2.2.2.2.2.2.2.2.1,hk.2.2.2.2.2.2.2.2.2⟩⟩⟩⟩⟩⟩⟩⟩,hk.1⟩)) hg hat)
            have n3_ := Y0 (Kd.N_afterv (ok := (fun k_ => nB k_ (.slice Ao17 t208.length co17) ∧ nB k_ (.slice Ao19 t211.length co19) ∧ nB k_ (.slice Ao22 t217.length co22) ∧ nB k_ (.slice Ao28 t226.length co28) ∧ nB k_ (.slice Ao32 t229.length co32) ∧ k_ ≠ gb216 ∧ k_ ≠ gb225 ∧ k_ ≠ gb234 ∧ k_ ≠ gb247)) (by (with_reducible repeat (first | apply Y20));exact Kd.N_mono HO_226001.out (fun _ hk => ⟨⟨hk.2.1,⟨hk.2.2.1,⟨hk.2.2.2.1,⟨hk.2.2.2.2.1,⟨hk.2.2.2.2.2.1,⟨hk.2.2.2.2.2.2.1,⟨hk.2.2.2.2.2.2.2.1,⟨hk.2.2.2.2.2.2.2.2.1,hk.2.2.2.2.2.2.2.2.2⟩⟩⟩⟩⟩⟩⟩⟩,hk.1⟩)) hg hat)
            have n4_ := Y0 (Kd.N_afterv (ok := (fun k_ => nB k_ (.slice Ao17 t208.length co17) ∧ nB k_ (.slice Ao19 t211.length co19) ∧ nB k_ (.slice Ao22 t217.length co22) ∧ nB k_ (.slice Ao25 t220.length co25) ∧ nB k_ (.slice Ao32 t229.length co32) ∧ k_ ≠ gb216 ∧ k_ ≠ gb225 ∧ k_ ≠ gb234 ∧ k_ ≠ gb247)) (by (with_reducible repeat (first | apply Y20));exact Kd.N_mono HO_235000.out (fun _ hk => ⟨⟨hk.2.1,⟨hk.2.2.1,⟨hk.2.2.2.1,⟨hk.2.2.2.2.1,⟨hk.2.2.2.2.2.1,⟨hk.2.2.2.2.2.2.1,⟨hk.2.2.2.2.2.2.2.1,⟨hk.2.2.2.2.2.2.2.2.1,hk.2.2.2.2.2.2.2.2.2⟩⟩⟩⟩⟩⟩⟩⟩,hk.1⟩)) hg hat)
            have n5_ := Y0 (Kd.N_afterv (ok := (fun k_ => nB k_ (.slice Ao17 t208.length co17) ∧ nB k_ (.slice Ao19 t211.length co19) ∧ nB k_ (.slice Ao22 t217.length co22) ∧ nB k_ (.slice Ao25 t220.length co25) ∧ nB k_ (.slice Ao28 t226.length co28) ∧ k_ ≠ gb216 ∧ k_ ≠ gb225 ∧ k_ ≠ gb234 ∧ k_ ≠ gb247)) (by (with_reducible repeat (first | apply Y20));exact Kd.N_mono HO_235001.out (fun _ hk => ⟨⟨hk.2.1,⟨hk.2.2.1,⟨hk.2.2.2.1,⟨hk.2.2.2.2.1,⟨hk.2.2.2.2.2.1,⟨hk.2.2.2.2.2.2.1,⟨hk.2.2.2.2.2.2.2.1,⟨hk.2.2.2.2.2.2.2.2.1,hk.2.2.2.2.2.2.2.2.2⟩⟩⟩⟩⟩⟩⟩⟩,hk.1⟩)) hg hat)
            have n6_ := Y0 (blk_grown (g := gb216) (o := .cells #[.slice Ao17 t208.length co17,.slice Ao19 t211.length co19] 26 (0,0)) (by (with_reducible repeat first | apply Y11 | apply Y13 | apply Y12);exact BK216.out) hg (Kd.N_ne HO237.out BK216.out (by decide)))
            have n7_ := Y0 (blk_grown (g := gb225) (o := .cells #[.slice Ao22 t217.length co22,.slice Ao25 t220.length co25] 26 (0,0)) (by (with_reducible repeat first | apply Y11 | apply Y13 | apply Y12);exact BK225.out) hg (Kd.N_ne HO237.out BK225.out (by decide)))
            have n8_ := Y0 (blk_grown (g := gb234) (o := .cells #[.slice Ao28 t226.length co28,.slice Ao32 t229.length co32] 26 (0,0)) (by (with_reducible repeat first | apply Y11 | apply Y13 | apply Y12);exact BK234.out) hg (Kd.N_ne HO237.out BK234.out (by decide)))
            have n9_ := Y0 (blk_grown (g := gb247) (o := .cells #[.slice none 0 0,.slice none 0 0] 26 (0,0)) (by (with_reducible repeat first | apply Y11 | apply Y13 | apply Y12);exact BK247.out) hg (Kd.N_ne HO237.out BK247.out (by decide)))
            have n10_ := Y0 (hb)
            have n11_ := Y0 (ho)
            clear HO_217000 HO_217001 HO_226000 HO_226001 HO_235000 HO_235001 BK216 BK225 BK234 BK247 HB HO237
            have HO_217000 := n0_
            have HO_217001 := n1_
            have HO_226000 := n2_
            have HO_226001 := n3_
            have HO_235000 := n4_
            have HO_235001 := n5_
            have BK216 := n6_
            have BK225 := n7_
            have BK234 := n8_
            have BK247 := n9_
            have HB := n10_
            have HO240 := n11_
            clear n0_ n1_ n2_ n3_ n4_ n5_ n6_ n7_ n8_ n9_ n10_ n11_ ho hb hg hat
            refine hK.out _ _ ⟨(blk_cell BK216.out 0).trans rfl,(blk_cell BK216.out 1).trans rfl,(blk_cell BK225.out 0).trans rfl,(blk_cell BK225.out 1).trans rfl⟩ (fun hHeld => ?_)
            clear hK K
            refine norm_ (a' := ?_) ?_ ?_
            rotate_left
            ·show Act.put _ (some 66) _ = _
             simp only [Act.put,Y14,Y15,Y16]
             rfl
            exact norm_ (by first | (simp only [putAll,Act.put,List.setIfInBounds_toArray,List.set_cons_zero,List.set_cons_succ];done) | (simp only [putAll,Act.put,List.setIfInBounds_toArray,List.set_cons_zero,List.set_cons_succ];rfl)) (hJ2_5_13 (v236,v239,gb247) _ ⟨hHeld,(by (with_reducible repeat (first | apply Y20));exact HO240.out),(by (with_reducible repeat (first | apply Y20));exact Kd.N_mono HO_217000.out (fun _ hk => ⟨hk.2,⟨hk.1.1,⟨hk.1.2.1,⟨hk.1.2.2.1,⟨hk.1.2.2.2.1,⟨hk.1.2.2.2.2.1,⟨hk.1.2.2.2.2.2.1,⟨hk.1.2.2.2.2.2.2.1,⟨hk.1.2.2.2.2.2.2.2.1,hk.1.2.2.2.2.2.2.2.2⟩⟩⟩⟩⟩⟩⟩⟩⟩)),(by (with_reducible repeat (first | apply Y20));exact Kd.N_mono HO_217001.out (fun _ hk => ⟨hk.2,⟨hk.1.1,⟨hk.1.2.1,⟨hk.1.2.2.1,⟨hk.1.2.2.2.1,⟨hk.1.2.2.2.2.1,⟨hk.1.2.2.2.2.2.1,⟨hk.1.2.2.2.2.2.2.1,⟨hk.1.2.2.2.2.2.2.2.1,hk.1.2.2.2.2.2.2.2.2⟩⟩⟩⟩⟩⟩⟩⟩⟩)),(by (with_reducible repeat (first | apply Y20));exact Kd.N_mono HO_226000.out (fun _ hk => ⟨hk.2,⟨hk.1.1,⟨hk.1.2.1,⟨hk.1.2.2.1,⟨hk.1.2.2.2.1,⟨hk.1.2.2.2.2.1,⟨hk.1.2.2.2.2.2.1,⟨hk.1.2.2.2.2.2.2.1,⟨hk.1.2.2.2.2.2.2.2.1,hk.1.2.2.2.2.2.2.2.2⟩⟩⟩⟩⟩⟩⟩⟩⟩)),(by (with_reducible repeat (first | apply Y20));exact Kd.N_mono HO_226001.out (fun _ hk => ⟨hk.2,⟨hk.1.1,⟨hk.1.2.1,⟨hk.1.2.2.1,⟨hk.1.2.2.2.1,⟨hk.1.2.2.2.2.1,⟨hk.1.2.2.2.2.2.1,⟨hk.1.2.2.2.2.2.2.1,⟨hk.1.2.2.2.2.2.2.2.1,hk.1.2.2.2.2.2.2.2.2⟩⟩⟩⟩⟩⟩⟩⟩⟩)),(by (with_reducible repeat (first | apply Y20));exact Kd.N_mono HO_235000.out (fun _ hk => ⟨hk.2,⟨hk.1.1,⟨hk.1.2.1,⟨hk.1.2.2.1,⟨hk.1.2.2.2.1,⟨hk.1.2.2.2.2.1,⟨hk.1.2.2.2.2.2.1,⟨hk.1.2.2.2.2.2.2.1,⟨hk.1.2.2.2.2.2.2.2.1,hk.1.2.2.2.2.2.2.2.2⟩⟩⟩⟩⟩⟩⟩⟩⟩)),(by (with_reducible repeat (first | apply Y20));exact Kd.N_mono HO_235001.out (fun _ hk => ⟨hk.2,⟨hk.1.1,⟨hk.1.2.1,⟨hk.1.2.2.1,⟨hk.1.2.2.2.1,⟨hk.1.2.2.2.2.1,⟨hk.1.2.2.2.2.2.1,⟨hk.1.2.2.2.2.2.2.1,⟨hk.1.2.2.2.2.2.2.2.1,hk.1.2.2.2.2.2.2.2.2⟩⟩⟩⟩⟩⟩⟩⟩⟩)),(by (with_reducible repeat first | apply Y11 | apply Y13 | apply Y12);exact BK216.out),(by (with_reducible repeat first | apply Y11 | apply Y13 | apply Y12);exact BK225.out),(by (with_reducible repeat first | apply Y11 | apply Y13 | apply Y12);exact BK234.out),(by (with_reducible repeat first | apply Y11 | apply Y13 | apply Y12);exact BK247.out),GW247.out,GE247.out,NB216_247.out,NB247_216.out,NB225_247.out,NB247_225.out,NB234_247.out,NB247_234.out,(by repeat (with_reducible first | exact HB.out | apply Y3 | apply Y1 | apply Y2 | refine Y4 ?_ GE216.out | refine Y4 ?_ GE225.out | refine Y4 ?_ GE234.out | refine Y4 ?_ GE247.out))⟩)
          ·skip
           rintro ⟨v236,v239⟩ w46 ⟨hS_,h0_,h1_,h2_,h3_,h4_,h5_,h6_,h7_,h8_,h9_,h10_⟩
           have n0_ : Aside0 (Kd.N k34 34 w46 w.heap.size (fun k_ => nB k_ (.slice Ao19 t211.length co19) ∧ nB k_ (.slice Ao25 t220.length co25) ∧ nB k_ (.slice Ao28 t226.length co28) ∧ nB k_ (.slice Ao32 t229.length co32) ∧ k_ ≠ gb216 ∧ k_ ≠ gb225 ∧ k_ ≠ gb234) v239 y238) := ⟨h0_⟩
           have n1_ : Aside0 (Kd.N k34 34 w46 w.heap.size (fun k_ => nB k_ (v239) ∧ nB k_ (.slice Ao19 t211.length co19) ∧ nB k_ (.slice Ao22 t217.length co22) ∧ nB k_ (.slice Ao25 t220.length co25) ∧ nB k_ (.slice Ao28 t226.length co28) ∧ nB k_ (.slice Ao32 t229.length co32) ∧ k_ ≠ gb216 ∧ k_ ≠ gb225 ∧ k_ ≠ gb234) (.slice Ao17 t208.length co17) t208) := ⟨h1_⟩
           have n2_ : Aside0 (Kd.N k68 68 w46 w.heap.size (fun k_ => nB k_ (v239) ∧ nB k_ (.slice Ao17 t208.length co17) ∧ nB k_ (.slice Ao22 t217.length co22) ∧ nB k_ (.slice Ao25 t220.length co25) ∧ nB k_ (.slice Ao28 t226.length co28) ∧ nB k_ (.slice Ao32 t229.length co32) ∧ k_ ≠ gb216 ∧ k_ ≠ gb225 ∧ k_ ≠ gb234) (.slice Ao19 t211.length co19) t211) := ⟨h2_⟩
           have n3_ : Aside0 (Kd.N k34 34 w46 w.heap.size (fun k_ => nB k_ (v239) ∧ nB k_ (.slice Ao17 t208.length co17) ∧ nB k_ (.slice Ao19 t211.length co19) ∧ nB k_ (.slice Ao25 t220.length co25) ∧ nB k_ (.slice Ao28 t226.length co28) ∧ nB k_ (.slice Ao32 t229.length co32) ∧ k_ ≠ gb216 ∧ k_ ≠ gb225 ∧ k_ ≠ gb234) (.slice Ao22 t217.length co22) t217) := ⟨h3_⟩
           have n4_ : Aside0 (Kd.N k68 68 w46 w.heap.size (fun k_ => nB k_ (v239) ∧ nB k_ (.slice Ao17 t208.length co17) ∧ nB k_ (.slice Ao19 t211.length co19) ∧ nB k_ (.slice Ao22 t217.length co22) ∧ nB k_ (.slice Ao28 t226.length co28) ∧ nB k_ (.slice Ao32 t229.length co32) ∧ k_ ≠ gb216 ∧ k_ ≠ gb225 ∧ k_ ≠ gb234) (.slice Ao25 t220.length co25) t220) := ⟨h4_⟩
           have n5_ : Aside0 (Kd.N k34 34 w46 w.heap.size (fun k_ => nB k_ (v239) ∧ nB k_ (.slice Ao17 t208.length co17) ∧ nB k_ (.slice Ao19 t211.length co19) ∧ nB k_ (.slice Ao22 t217.length co22) ∧ nB k_ (.slice Ao25 t220.length co25) ∧ nB k_ (.slice Ao32 t229.length co32) ∧ k_ ≠ gb216 ∧ k_ ≠ gb225 ∧ k_ ≠ gb234) (.slice Ao28 t226.length co28) t226) := ⟨h5_⟩
           have n6_ : Aside0 (Kd.N k68 68 w46 w.heap.size (fun k_ => nB k_ (v239) ∧ nB k_ (.slice Ao17 t208.length co17) ∧ nB k_ (.slice Ao19 t211.length co19) ∧ nB k_ (.slice Ao22 t217.length co22) ∧ nB k_ (.slice Ao25 t220.length co25) ∧ nB k_ (.slice Ao28 t226.length co28) ∧ k_ ≠ gb216 ∧ k_ ≠ gb225 ∧ k_ ≠ gb234) (.slice Ao32 t229.length co32) t229) := ⟨h6_⟩
           have n7_ : Aside0 (w46.heap[gb216]? = some (.cells #[.slice Ao17 t208.length co17,.slice Ao19 t211.length co19] 26 (0,0))) := ⟨h7_⟩
           have n8_ : Aside0 (w46.heap[gb225]? = some (.cells #[.slice Ao22 t217.length co22,.slice Ao25 t220.length co25] 26 (0,0))) := ⟨h8_⟩
           have n9_ : Aside0 (w46.heap[gb234]? = some (.cells #[.slice Ao28 t226.length co28,.slice Ao32 t229.length co32] 26 (0,0))) := ⟨h9_⟩
           have n10_ : Aside0 (Below w.heap.size w w46) := ⟨h10_⟩
           clear HO_217000 HO_217001 HO_226000 HO_226001 HO_235000 HO_235001 BK216 BK225 BK234 HB h0_ h1_ h2_ h3_ h4_ h5_ h6_ h7_ h8_ h9_ h10_
           have HO240 := n0_
           have HO_217000 := n1_
           have HO_217001 := n2_
           have HO_226000 := n3_
           have HO_226001 := n4_
           have HO_235000 := n5_
           have HO_235001 := n6_
           have BK216 := n7_
           have BK225 := n8_
           have BK234 := n9_
           have HB := n10_
           clear n0_ n1_ n2_ n3_ n4_ n5_ n6_ n7_ n8_ n9_ n10_
           have hHeld : w46.cell? ⟨gb216,0,none⟩ = some (.slice Ao17 t208.length co17) ∧ w46.cell? ⟨gb216,1,none⟩ = some (.slice Ao19 t211.length co19) ∧ w46.cell? ⟨gb225,0,none⟩ = some (.slice Ao22 t217.length co22) ∧ w46.cell? ⟨gb225,1,none⟩ = some (.slice Ao25 t220.length co25) := hS_
           refine norm_ (a' := ?_) ?_ ?_
           rotate_left
           ·simp only [putAll,Act.put,List.setIfInBounds_toArray,List.set_cons_zero,List.set_cons_succ]
            rfl
           refine two_ (i := 8) (j := 13) (Ni := some 69) (Nj := some 15) #[true,true,true,true,true,true,true,true,true,true,true,false,false,false,false] #[true,true,true,true,true,true,true,true,false,true,true,false,false,true,false] rfl rfl rfl rfl (two_of HT_.out (by kernel_rfl)) (by decide) (by decide) (fun K hK => ?_) (fun K hK => ?_)
           ·skip
            refine Kd.N_append_rows_step k68 (w0 := w) w.heap.size (by rfl) (.const (.slice none 0 0)) (.tmp 68) 24 68 (.agg #[(.string ⟨#[]⟩),(.slice none 0 0),(.int .i64 0)]) 48 rfl Tryz.underlying24 info68 rfl (by decide) (by omega) (.slice none 0 0) ([] : List (S68)) t211 _ _ _ (fun k_ => nB k_ (.slice Ao17 t208.length co17) ∧ nB k_ (.slice Ao22 t217.length co22) ∧ nB k_ (.slice Ao25 t220.length co25) ∧ nB k_ (.slice Ao28 t226.length co28) ∧ nB k_ (.slice Ao32 t229.length co32) ∧ nB k_ (v239) ∧ k_ ≠ gb216 ∧ k_ ≠ gb225 ∧ k_ ≠ gb234) (fun k_ => ((fun k_ => nB k_ (.slice Ao17 t208.length co17) ∧ nB k_ (.slice Ao22 t217.length co22) ∧ nB k_ (.slice Ao25 t220.length co25) ∧ nB k_ (.slice Ao28 t226.length co28) ∧ nB k_ (.slice Ao32 t229.length co32) ∧ nB k_ (v239) ∧ k_ ≠ gb216 ∧ k_ ≠ gb225 ∧ k_ ≠ gb234)) k_ ∧ nB k_ (.slice none 0 0)) rfl rfl ?aO ?aR (fun _ hk => hk) ?aF ?aB ?aS ?aL ?_
            (case aR => exact (by skip;exact Kd.N_F (Kd.N_mono (ok' := (fun k_ => ((fun k_ => nB k_ (.slice Ao17 t208.length co17) ∧ nB k_ (.slice Ao22 t217.length co22) ∧ nB k_ (.slice Ao25 t220.length co25) ∧ nB k_ (.slice Ao28 t226.length co28) ∧ nB k_ (.slice Ao32 t229.length co32) ∧ nB k_ (v239) ∧ k_ ≠ gb216 ∧ k_ ≠ gb225 ∧ k_ ≠ gb234)) k_ ∧ nB k_ (.slice none 0 0))) (HO_217001.out) (fun k_ hk => ⟨⟨hk.2.1,⟨hk.2.2.1,⟨hk.2.2.2.1,⟨hk.2.2.2.2.1,⟨hk.2.2.2.2.2.1,⟨hk.1,⟨hk.2.2.2.2.2.2.1,⟨hk.2.2.2.2.2.2.2.1,hk.2.2.2.2.2.2.2.2⟩⟩⟩⟩⟩⟩⟩⟩,(by simp [Value.ownBlock])⟩))))
            (case aB => exact (by repeat (with_reducible first | exact HB.out | apply Y3 | apply Y1 | apply Y2 | refine Y4 ?_ GE216.out | refine Y4 ?_ GE225.out | refine Y4 ?_ GE234.out)))
            (case aF => exact (fun k_ hk => ⟨Kd.fresh' (Kd.N_lt (by (with_reducible repeat (first | apply Y20));exact HO_217000.out)) k_ hk,Kd.fresh' (Kd.N_lt (by (with_reducible repeat (first | apply Y20));exact HO_226000.out)) k_ hk,Kd.fresh' (Kd.N_lt (by (with_reducible repeat (first | apply Y20));exact HO_226001.out)) k_ hk,Kd.fresh' (Kd.N_lt (by (with_reducible repeat (first | apply Y20));exact HO_235000.out)) k_ hk,Kd.fresh' (Kd.N_lt (by (with_reducible repeat (first | apply Y20));exact HO_235001.out)) k_ hk,Kd.fresh' (Kd.N_lt (by (with_reducible repeat (first | apply Y20));exact HO240.out)) k_ hk,Kd.freshB (g := gb216) (o := .cells #[.slice Ao17 t208.length co17,.slice Ao19 t211.length co19] 26 (0,0)) (by (with_reducible repeat first | apply Y11 | apply Y13 | apply Y12);exact BK216.out) k_ hk,Kd.freshB (g := gb225) (o := .cells #[.slice Ao22 t217.length co22,.slice Ao25 t220.length co25] 26 (0,0)) (by (with_reducible repeat first | apply Y11 | apply Y13 | apply Y12);exact BK225.out) k_ hk,Kd.freshB (g := gb234) (o := .cells #[.slice Ao28 t226.length co28,.slice Ao32 t229.length co32] 26 (0,0)) (by (with_reducible repeat first | apply Y11 | apply Y13 | apply Y12);exact BK234.out) k_ hk⟩))
            (case aO => exact ((Kd.N_nil _ _ _ _ (fun k_ => nB k_ (.slice Ao17 t208.length co17) ∧ nB k_ (.slice Ao22 t217.length co22) ∧ nB k_ (.slice Ao25 t220.length co25) ∧ nB k_ (.slice Ao28 t226.length co28) ∧ nB k_ (.slice Ao32 t229.length co32) ∧ nB k_ (v239) ∧ k_ ≠ gb216 ∧ k_ ≠ gb225 ∧ k_ ≠ gb234))))
            (case aS => exact (below_size (by repeat (with_reducible first | exact HB.out | apply Y3 | apply Y1 | apply Y2 | refine Y4 ?_ GE216.out | refine Y4 ?_ GE225.out | refine Y4 ?_ GE234.out))))
            (case aL => have := LMc38.out;omega)
            intro v242 w47 ho hb hg hat
            rw [← Ny241.out] at ho
            have n0_ := Y0 (Kd.N_afterv (Kd.N_apart_nil (by (with_reducible repeat (first | apply Y20));exact HO_217000.out)) hg hat)
            have n1_ := Y0 (Kd.N_afterv (Kd.N_apart_nil (by (with_reducible repeat (first | apply Y20));exact HO_217001.out)) hg hat)
            have n2_ := Y0 (Kd.N_afterv (Kd.N_apart_nil (by (with_reducible repeat (first | apply Y20));exact HO_226000.out)) hg hat)
            have n3_ := Y0 (Kd.N_afterv (Kd.N_apart_nil (by (with_reducible repeat (first | apply Y20));exact HO_226001.out)) hg hat)
            have n4_ := Y0 (Kd.N_afterv (Kd.N_apart_nil (by (with_reducible repeat (first | apply Y20));exact HO_235000.out)) hg hat)
            have n5_ := Y0 (Kd.N_afterv (Kd.N_apart_nil (by (with_reducible repeat (first | apply Y20));exact HO_235001.out)) hg hat)
            have n6_ := Y0 (blk_grown (g := gb216) (o := .cells #[.slice Ao17 t208.length co17,.slice Ao19 t211.length co19] 26 (0,0)) (by (with_reducible repeat first | apply Y11 | apply Y13 | apply Y12);exact BK216.out) hg (by simp [Value.ownBlock]))
            have n7_ := Y0 (blk_grown (g := gb225) (o := .cells #[.slice Ao22 t217.length co22,.slice Ao25 t220.length co25] 26 (0,0)) (by (with_reducible repeat first | apply Y11 | apply Y13 | apply Y12);exact BK225.out) hg (by simp [Value.ownBlock]))
            have n8_ := Y0 (blk_grown (g := gb234) (o := .cells #[.slice Ao28 t226.length co28,.slice Ao32 t229.length co32] 26 (0,0)) (by (with_reducible repeat first | apply Y11 | apply Y13 | apply Y12);exact BK234.out) hg (by simp [Value.ownBlock]))
            have n9_ := Y0 (Kd.N_afterv (Kd.N_apart_nil (by (with_reducible repeat (first | apply Y20));exact HO240.out)) hg hat)
            have n10_ := Y0 (hb)
            have n11_ := Y0 (ho)
            clear HO_217000 HO_217001 HO_226000 HO_226001 HO_235000 HO_235001 BK216 BK225 BK234 HO240 HB
            have HO_217000 := n0_
            have HO_217001 := n1_
            have HO_226000 := n2_
            have HO_226001 := n3_
            have HO_235000 := n4_
            have HO_235001 := n5_
            have BK216 := n6_
            have BK225 := n7_
            have BK234 := n8_
            have HO240 := n9_
            have HB := n10_
            have HO243 := n11_
            clear n0_ n1_ n2_ n3_ n4_ n5_ n6_ n7_ n8_ n9_ n10_ n11_ ho hb hg hat
            refine hK.out _ _ ⟨(blk_cell BK216.out 0).trans rfl,(blk_cell BK216.out 1).trans rfl,(blk_cell BK225.out 0).trans rfl,(blk_cell BK225.out 1).trans rfl⟩ (fun hHeld => ?_)
            clear hK K
            refine norm_ (a' := ?_) ?_ ?_
            rotate_left
            ·show Act.put _ (some 69) _ = _
             simp only [Act.put,Y14,Y15,Y16]
             rfl
            exact norm_ (by first | (simp only [putAll,Act.put,List.setIfInBounds_toArray,List.set_cons_zero,List.set_cons_succ];done) | (simp only [putAll,Act.put,List.setIfInBounds_toArray,List.set_cons_zero,List.set_cons_succ];rfl)) (hJ2_5_8 (v236,v239,v242) _ ⟨hHeld,(by (with_reducible repeat (first | apply Y20));exact Kd.N_mono HO240.out (fun _ hk => ⟨hk.2,⟨hk.1.1,⟨hk.1.2.1,⟨hk.1.2.2.1,⟨hk.1.2.2.2.1,⟨hk.1.2.2.2.2.1,⟨hk.1.2.2.2.2.2.1,hk.1.2.2.2.2.2.2⟩⟩⟩⟩⟩⟩⟩)),(by (with_reducible repeat (first | apply Y20));exact Kd.N_mono HO243.out (fun _ hk => ⟨hk.2.2.2.2.2.1,⟨hk.1,⟨hk.2.1,⟨hk.2.2.1,⟨hk.2.2.2.1,⟨hk.2.2.2.2.1,⟨hk.2.2.2.2.2.2.1,⟨hk.2.2.2.2.2.2.2.1,hk.2.2.2.2.2.2.2.2⟩⟩⟩⟩⟩⟩⟩⟩)),(by (with_reducible repeat (first | apply Y20));exact Kd.N_mono HO_217000.out (fun _ hk => ⟨hk.1.1,⟨hk.2,⟨hk.1.2.1,⟨hk.1.2.2.1,⟨hk.1.2.2.2.1,⟨hk.1.2.2.2.2.1,⟨hk.1.2.2.2.2.2.1,⟨hk.1.2.2.2.2.2.2.1,⟨hk.1.2.2.2.2.2.2.2.1,hk.1.2.2.2.2.2.2.2.2⟩⟩⟩⟩⟩⟩⟩⟩⟩)),(by (with_reducible repeat (first | apply Y20));exact Kd.N_mono HO_217001.out (fun _ hk => ⟨hk.1.1,⟨hk.2,⟨hk.1.2.1,⟨hk.1.2.2.1,⟨hk.1.2.2.2.1,⟨hk.1.2.2.2.2.1,⟨hk.1.2.2.2.2.2.1,⟨hk.1.2.2.2.2.2.2.1,⟨hk.1.2.2.2.2.2.2.2.1,hk.1.2.2.2.2.2.2.2.2⟩⟩⟩⟩⟩⟩⟩⟩⟩)),(by (with_reducible repeat (first | apply Y20));exact Kd.N_mono HO_226000.out (fun _ hk => ⟨hk.1.1,⟨hk.2,⟨hk.1.2.1,⟨hk.1.2.2.1,⟨hk.1.2.2.2.1,⟨hk.1.2.2.2.2.1,⟨hk.1.2.2.2.2.2.1,⟨hk.1.2.2.2.2.2.2.1,⟨hk.1.2.2.2.2.2.2.2.1,hk.1.2.2.2.2.2.2.2.2⟩⟩⟩⟩⟩⟩⟩⟩⟩)),(by (with_reducible repeat (first | apply Y20));exact Kd.N_mono HO_226001.out (fun _ hk => ⟨hk.1.1,⟨hk.2,⟨hk.1.2.1,⟨hk.1.2.2.1,⟨hk.1.2.2.2.1,⟨hk.1.2.2.2.2.1,⟨hk.1.2.2.2.2.2.1,⟨hk.1.2.2.2.2.2.2.1,⟨hk.1.2.2.2.2.2.2.2.1,hk.1.2.2.2.2.2.2.2.2⟩⟩⟩⟩⟩⟩⟩⟩⟩)),(by (with_reducible repeat (first | apply Y20));exact Kd.N_mono HO_235000.out (fun _ hk => ⟨hk.1.1,⟨hk.2,⟨hk.1.2.1,⟨hk.1.2.2.1,⟨hk.1.2.2.2.1,⟨hk.1.2.2.2.2.1,⟨hk.1.2.2.2.2.2.1,⟨hk.1.2.2.2.2.2.2.1,⟨hk.1.2.2.2.2.2.2.2.1,hk.1.2.2.2.2.2.2.2.2⟩⟩⟩⟩⟩⟩⟩⟩⟩)),(by (with_reducible repeat (first | apply Y20));exact Kd.N_mono HO_235001.out (fun _ hk => ⟨hk.1.1,⟨hk.2,⟨hk.1.2.1,⟨hk.1.2.2.1,⟨hk.1.2.2.2.1,⟨hk.1.2.2.2.2.1,⟨hk.1.2.2.2.2.2.1,⟨hk.1.2.2.2.2.2.2.1,⟨hk.1.2.2.2.2.2.2.2.1,hk.1.2.2.2.2.2.2.2.2⟩⟩⟩⟩⟩⟩⟩⟩⟩)),(by (with_reducible repeat first | apply Y11 | apply Y13 | apply Y12);exact BK216.out),(by (with_reducible repeat first | apply Y11 | apply Y13 | apply Y12);exact BK225.out),(by (with_reducible repeat first | apply Y11 | apply Y13 | apply Y12);exact BK234.out),(by repeat (with_reducible first | exact HB.out | apply Y3 | apply Y1 | apply Y2 | refine Y4 ?_ GE216.out | refine Y4 ?_ GE225.out | refine Y4 ?_ GE234.out))⟩)
           ·skip
            refine box_step ?hg (N := 15) ?hd (cs := #[.slice none 0 0,.slice none 0 0]) (t := 26) ?hr ?_;(case hd => rfl);(case hg => rfl);(case hr => first | (go_simp;done) | (go_simp;rfl))
            intro gb247 hg w47 hbox hb
            have n0_ := Y0 (Kd.N_below (Kd.N_elderB (by (with_reducible repeat (first | apply Y20));exact HO_217000.out) gb247 (Nat.le_of_eq hg.symm)) hb)
            have n1_ := Y0 (Kd.N_below (Kd.N_elderB (by (with_reducible repeat (first | apply Y20));exact HO_217001.out) gb247 (Nat.le_of_eq hg.symm)) hb)
            have n2_ := Y0 (Kd.N_below (Kd.N_elderB (by (with_reducible repeat (first | apply Y20));exact HO_226000.out) gb247 (Nat.le_of_eq hg.symm)) hb)
            have n3_ := Y0 (Kd.N_below (Kd.N_elderB (by (with_reducible repeat (first | apply Y20));exact HO_226001.out) gb247 (Nat.le_of_eq hg.symm)) hb)
            have n4_ := Y0 (Kd.N_below (Kd.N_elderB (by (with_reducible repeat (first | apply Y20));exact HO_235000.out) gb247 (Nat.le_of_eq hg.symm)) hb)
            have n5_ := Y0 (Kd.N_below (Kd.N_elderB (by (with_reducible repeat (first | apply Y20));exact HO_235001.out) gb247 (Nat.le_of_eq hg.symm)) hb)
            have n6_ := Y0 (Kd.N_below (Kd.N_elderB (by (with_reducible repeat (first | apply Y20));exact HO240.out) gb247 (Nat.le_of_eq hg.symm)) hb)
            have n7_ := Y0 (blk_below (g := gb216) (o := .cells #[.slice Ao17 t208.length co17,.slice Ao19 t211.length co19] 26 (0,0)) (by (with_reducible repeat first | apply Y11 | apply Y13 | apply Y12);exact BK216.out) hb)
            have n8_ := Y0 (blk_below (g := gb225) (o := .cells #[.slice Ao22 t217.length co22,.slice Ao25 t220.length co25] 26 (0,0)) (by (with_reducible repeat first | apply Y11 | apply Y13 | apply Y12);exact BK225.out) hb)
            have n9_ := Y0 (blk_below (g := gb234) (o := .cells #[.slice Ao28 t226.length co28,.slice Ao32 t229.length co32] 26 (0,0)) (by (with_reducible repeat first | apply Y11 | apply Y13 | apply Y12);exact BK234.out) hb)
            have n10_ := Y0 (below_step (by repeat (with_reducible first | exact HB.out | apply Y3 | apply Y1 | apply Y2 | refine Y4 ?_ GE216.out | refine Y4 ?_ GE225.out | refine Y4 ?_ GE234.out)) hb)
            have n11_ := Y0 (hbox)
            have n12_ := Y0 ((by rw [hg];exact (below_size (by repeat (with_reducible first | exact HB.out | apply Y3 | apply Y1 | apply Y2 | refine Y4 ?_ GE216.out | refine Y4 ?_ GE225.out | refine Y4 ?_ GE234.out))) : w.heap.size ≤ gb247))
            have n13_ := Y0 ((by rw [hg];exact (below_size (by repeat (with_reducible first | exact HB.out | apply Y3 | apply Y1 | apply Y2 | refine Y4 ?_ GE216.out | refine Y4 ?_ GE225.out | refine Y4 ?_ GE234.out))) : w.heap.size ≤ gb247))
            have n14_ := Y0 ((by rw [hg];exact Nat.ne_of_lt (blk_lt (g := gb216) (o := .cells #[.slice Ao17 t208.length co17,.slice Ao19 t211.length co19] 26 (0,0)) (by (with_reducible repeat first | apply Y11 | apply Y13 | apply Y12);exact BK216.out)) : gb216 ≠ gb247))
            have n15_ := Y0 ((by rw [hg];exact Nat.ne_of_gt (blk_lt (g := gb216) (o := .cells #[.slice Ao17 t208.length co17,.slice Ao19 t211.length co19] 26 (0,0)) (by (with_reducible repeat first | apply Y11 | apply Y13 | apply Y12);exact BK216.out)) : gb247 ≠ gb216))
            have n16_ := Y0 ((by rw [hg];exact Nat.ne_of_lt (blk_lt (g := gb225) (o := .cells #[.slice Ao22 t217.length co22,.slice Ao25 t220.length co25] 26 (0,0)) (by (with_reducible repeat first | apply Y11 | apply Y13 | apply Y12);exact BK225.out)) : gb225 ≠ gb247))
            have n17_ := Y0 ((by rw [hg];exact Nat.ne_of_gt (blk_lt (g := gb225) (o := .cells #[.slice Ao22 t217.length co22,.slice Ao25 t220.length co25] 26 (0,0)) (by (with_reducible repeat first | apply Y11 | apply Y13 | apply Y12);exact BK225.out)) : gb247 ≠ gb225))
            have n18_ := Y0 ((by rw [hg];exact Nat.ne_of_lt (blk_lt (g := gb234) (o := .cells #[.slice Ao28 t226.length co28,.slice Ao32 t229.length co32] 26 (0,0)) (by (with_reducible repeat first | apply Y11 | apply Y13 | apply Y12);exact BK234.out)) : gb234 ≠ gb247))
            have n19_ := Y0 ((by rw [hg];exact Nat.ne_of_gt (blk_lt (g := gb234) (o := .cells #[.slice Ao28 t226.length co28,.slice Ao32 t229.length co32] 26 (0,0)) (by (with_reducible repeat first | apply Y11 | apply Y13 | apply Y12);exact BK234.out)) : gb247 ≠ gb234))
            clear HO_217000 HO_217001 HO_226000 HO_226001 HO_235000 HO_235001 HO240 BK216 BK225 BK234 HB
            have HO_217000 := n0_
            have HO_217001 := n1_
            have HO_226000 := n2_
            have HO_226001 := n3_
            have HO_235000 := n4_
            have HO_235001 := n5_
            have HO240 := n6_
            have BK216 := n7_
            have BK225 := n8_
            have BK234 := n9_
            have HB := n10_
            have BK247 := n11_
            have GW247 := n12_
            have GE247 := n13_
            have NB216_247 := n14_
            have NB247_216 := n15_
            have NB225_247 := n16_
            have NB247_225 := n17_
            have NB234_247 := n18_
            have NB247_234 := n19_
            clear n0_ n1_ n2_ n3_ n4_ n5_ n6_ n7_ n8_ n9_ n10_ n11_ n12_ n13_ n14_ n15_ n16_ n17_ n18_ n19_ hb hbox hg
            refine hK.out _ _ ⟨(blk_cell BK216.out 0).trans rfl,(blk_cell BK216.out 1).trans rfl,(blk_cell BK225.out 0).trans rfl,(blk_cell BK225.out 1).trans rfl⟩ (fun hHeld => ?_)
            clear hK K
            refine norm_ (a' := ?_) ?_ ?_
            rotate_left
            ·show Act.put _ (some 15) _ = _
             simp only [Act.put,Y14,Y15,Y16]
             rfl
            exact norm_ (by first | (simp only [putAll,Act.put,List.setIfInBounds_toArray,List.set_cons_zero,List.set_cons_succ];done) | (simp only [putAll,Act.put,List.setIfInBounds_toArray,List.set_cons_zero,List.set_cons_succ];rfl)) (hJ2_5_13 (v236,v239,gb247) _ ⟨hHeld,(by (with_reducible repeat (first | apply Y20));exact Kd.N_mono HO240.out (fun _ hk => ⟨hk.1.1,⟨hk.1.2.1,⟨hk.1.2.2.1,⟨hk.1.2.2.2.1,⟨hk.1.2.2.2.2.1,⟨hk.1.2.2.2.2.2.1,⟨hk.1.2.2.2.2.2.2,hk.2⟩⟩⟩⟩⟩⟩⟩)),(by (with_reducible repeat (first | apply Y20));exact Kd.N_mono HO_217000.out (fun _ hk => ⟨hk.1.1,⟨hk.1.2.1,⟨hk.1.2.2.1,⟨hk.1.2.2.2.1,⟨hk.1.2.2.2.2.1,⟨hk.1.2.2.2.2.2.1,⟨hk.1.2.2.2.2.2.2.1,⟨hk.1.2.2.2.2.2.2.2.1,⟨hk.1.2.2.2.2.2.2.2.2,hk.2⟩⟩⟩⟩⟩⟩⟩⟩⟩)),(by (with_reducible repeat (first | apply Y20));exact Kd.N_mono HO_217001.out (fun _ hk => ⟨hk.1.1,⟨hk.1.2.1,⟨hk.1.2.2.1,⟨hk.1.2.2.2.1,⟨hk.1.2.2.2.2.1,⟨hk.1.2.2.2.2.2.1,⟨hk.1.2.2.2.2.2.2.1,⟨hk.1.2.2.2.2.2.2.2.1,⟨hk.1.2.2.2.2.2.2.2.2,hk.2⟩⟩⟩⟩⟩⟩⟩⟩⟩)),(by (with_reducible repeat (first | apply Y20));exact Kd.N_mono HO_226000.out (fun _ hk => ⟨hk.1.1,⟨hk.1.2.1,⟨hk.1.2.2.1,⟨hk.1.2.2.2.1,⟨hk.1.2.2.2.2.1,⟨hk.1.2.2.2.2.2.1,⟨hk.1.2.2.2.2.2.2.1,⟨hk.1.2.2.2.2.2.2.2.1,⟨hk.1.2.2.2.2.2.2.2.2,hk.2⟩⟩⟩⟩⟩⟩⟩⟩⟩)),(by (with_reducible repeat (first | apply Y20));exact Kd.N_mono HO_226001.out (fun _ hk => ⟨hk.1.1,⟨hk.1.2.1,⟨hk.1.2.2.1,⟨hk.1.2.2.2.1,⟨hk.1.2.2.2.2.1,⟨hk.1.2.2.2.2.2.1,⟨hk.1.2.2.2.2.2.2.1,⟨hk.1.2.2.2.2.2.2.2.1,⟨hk.1.2.2.2.2.2.2.2.2,hk.2⟩⟩⟩⟩⟩⟩⟩⟩⟩)),(by (with_reducible repeat (first | apply Y20));exact Kd.N_mono HO_235000.out (fun _ hk => ⟨hk.1.1,⟨hk.1.2.1,⟨hk.1.2.2.1,⟨hk.1.2.2.2.1,⟨hk.1.2.2.2.2.1,⟨hk.1.2.2.2.2.2.1,⟨hk.1.2.2.2.2.2.2.1,⟨hk.1.2.2.2.2.2.2.2.1,⟨hk.1.2.2.2.2.2.2.2.2,hk.2⟩⟩⟩⟩⟩⟩⟩⟩⟩)),(by (with_reducible repeat (first | apply Y20));exact Kd.N_mono HO_235001.out (fun _ hk => ⟨hk.1.1,⟨hk.1.2.1,⟨hk.1.2.2.1,⟨hk.1.2.2.2.1,⟨hk.1.2.2.2.2.1,⟨hk.1.2.2.2.2.2.1,⟨hk.1.2.2.2.2.2.2.1,⟨hk.1.2.2.2.2.2.2.2.1,⟨hk.1.2.2.2.2.2.2.2.2,hk.2⟩⟩⟩⟩⟩⟩⟩⟩⟩)),(by (with_reducible repeat first | apply Y11 | apply Y13 | apply Y12);exact BK216.out),(by (with_reducible repeat first | apply Y11 | apply Y13 | apply Y12);exact BK225.out),(by (with_reducible repeat first | apply Y11 | apply Y13 | apply Y12);exact BK234.out),(by (with_reducible repeat first | apply Y11 | apply Y13 | apply Y12);exact BK247.out),GW247.out,GE247.out,NB216_247.out,NB247_216.out,NB225_247.out,NB247_225.out,NB234_247.out,NB247_234.out,(by repeat (with_reducible first | exact HB.out | apply Y3 | apply Y1 | apply Y2 | refine Y4 ?_ GE216.out | refine Y4 ?_ GE225.out | refine Y4 ?_ GE234.out | refine Y4 ?_ GE247.out))⟩)
         ·skip
          rintro ⟨v236,v239,gb247⟩ w47 ⟨hS_,h0_,h1_,h2_,h3_,h4_,h5_,h6_,h7_,h8_,h9_,h10_,h11_,h12_,h13_,h14_,h15_,h16_,h17_,h18_,h19_⟩
          have n0_ : Aside0 (Kd.N k34 34 w47 w.heap.size (fun k_ => nB k_ (.slice Ao19 t211.length co19) ∧ nB k_ (.slice Ao25 t220.length co25) ∧ nB k_ (.slice Ao28 t226.length co28) ∧ nB k_ (.slice Ao32 t229.length co32) ∧ k_ ≠ gb216 ∧ k_ ≠ gb225 ∧ k_ ≠ gb234 ∧ k_ ≠ gb247) v239 y238) := ⟨h0_⟩
          have n1_ : Aside0 (Kd.N k34 34 w47 w.heap.size (fun k_ => nB k_ (v239) ∧ nB k_ (.slice Ao19 t211.length co19) ∧ nB k_ (.slice Ao22 t217.length co22) ∧ nB k_ (.slice Ao25 t220.length co25) ∧ nB k_ (.slice Ao28 t226.length co28) ∧ nB k_ (.slice Ao32 t229.length co32) ∧ k_ ≠ gb216 ∧ k_ ≠ gb225 ∧ k_ ≠ gb234 ∧ k_ ≠ gb247) (.slice Ao17 t208.length co17) t208) := ⟨h1_⟩
          have n2_ : Aside0 (Kd.N k68 68 w47 w.heap.size (fun k_ => nB k_ (v239) ∧ nB k_ (.slice Ao17 t208.length co17) ∧ nB k_ (.slice Ao22 t217.length co22) ∧ nB k_ (.slice Ao25 t220.length co25) ∧ nB k_ (.slice Ao28 t226.length co28) ∧ nB k_ (.slice Ao32 t229.length co32) ∧ k_ ≠ gb216 ∧ k_ ≠ gb225 ∧ k_ ≠ gb234 ∧ k_ ≠ gb247) (.slice Ao19 t211.length co19) t211) := ⟨h2_⟩
          have n3_ : Aside0 (Kd.N k34 34 w47 w.heap.size (fun k_ => nB k_ (v239) ∧ nB k_ (.slice Ao17 t208.length co17) ∧ nB k_ (.slice Ao19 t211.length co19) ∧ nB k_ (.slice Ao25 t220.length co25) ∧ nB k_ (.slice Ao28 t226.length co28) ∧ nB k_ (.slice Ao32 t229.length co32) ∧ k_ ≠ gb216 ∧ k_ ≠ gb225 ∧ k_ ≠ gb234 ∧ k_ ≠ gb247) (.slice Ao22 t217.length co22) t217) := ⟨h3_⟩
          have n4_ : Aside0 (Kd.N k68 68 w47 w.heap.size (fun k_ => nB k_ (v239) ∧ nB k_ (.slice Ao17 t208.length co17) ∧ nB k_ (.slice Ao19 t211.length co19) ∧ nB k_ (.slice Ao22 t217.length co22) ∧ nB k_ (.slice Ao28 t226.length co28) ∧ nB k_ (.slice Ao32 t229.length co32) ∧ k_ ≠ gb216 ∧ k_ ≠ gb225 ∧ k_ ≠ gb234 ∧ k_ ≠ gb247) (.slice Ao25 t220.length co25) t220) := ⟨h4_⟩
          have n5_ : Aside0 (Kd.N k34 34 w47 w.heap.size (fun k_ => nB k_ (v239) ∧ nB k_ (.slice Ao17 t208.length co17) ∧ nB k_ (.slice Ao19 t211.length co19) ∧ nB k_ (.slice Ao22 t217.length co22) ∧ nB k_ (.slice Ao25 t220.length co25) ∧ nB k_ (.slice Ao32 t229.length co32) ∧ k_ ≠ gb216 ∧ k_ ≠ gb225 ∧ k_ ≠ gb234 ∧ k_ ≠ gb247) (.slice Ao28 t226.length co28) t226) := ⟨h5_⟩
          have n6_ : Aside0 (Kd.N k68 68 w47 w.heap.size (fun k_ => nB k_ (v239) ∧ nB k_ (.slice Ao17 t208.length co17) ∧ nB k_ (.slice Ao19 t211.length co19) ∧ nB k_ (.slice Ao22 t217.length co22) ∧ nB k_ (.slice Ao25 t220.length co25) ∧ nB k_ (.slice Ao28 t226.length co28) ∧ k_ ≠ gb216 ∧ k_ ≠ gb225 ∧ k_ ≠ gb234 ∧ k_ ≠ gb247) (.slice Ao32 t229.length co32) t229) := ⟨h6_⟩
          have n7_ : Aside0 (w47.heap[gb216]? = some (.cells #[.slice Ao17 t208.length co17,.slice Ao19 t211.length co19] 26 (0,0))) := ⟨h7_⟩
          have n8_ : Aside0 (w47.heap[gb225]? = some (.cells #[.slice Ao22 t217.length co22,.slice Ao25 t220.length co25] 26 (0,0))) := ⟨h8_⟩
          have n9_ : Aside0 (w47.heap[gb234]? = some (.cells #[.slice Ao28 t226.length co28,.slice Ao32 t229.length co32] 26 (0,0))) := ⟨h9_⟩
          have n10_ : Aside0 (w47.heap[gb247]? = some (.cells #[.slice none 0 0,.slice none 0 0] 26 (0,0))) := ⟨h10_⟩
          have n11_ : Aside0 (w.heap.size ≤ gb247) := ⟨h11_⟩
          have n12_ : Aside0 (w.heap.size ≤ gb247) := ⟨h12_⟩
          have n13_ : Aside0 (gb216 ≠ gb247) := ⟨h13_⟩
          have n14_ : Aside0 (gb247 ≠ gb216) := ⟨h14_⟩
          have n15_ : Aside0 (gb225 ≠ gb247) := ⟨h15_⟩
          have n16_ : Aside0 (gb247 ≠ gb225) := ⟨h16_⟩
          have n17_ : Aside0 (gb234 ≠ gb247) := ⟨h17_⟩
          have n18_ : Aside0 (gb247 ≠ gb234) := ⟨h18_⟩
          have n19_ : Aside0 (Below w.heap.size w w47) := ⟨h19_⟩
          clear HO_217000 HO_217001 HO_226000 HO_226001 HO_235000 HO_235001 BK216 BK225 BK234 HB h0_ h1_ h2_ h3_ h4_ h5_ h6_ h7_ h8_ h9_ h10_ h11_ h12_ h13_ h14_ h15_ h16_ h17_ h18_ h19_
          have HO240 := n0_
          have HO_217000 := n1_
          have HO_217001 := n2_
          have HO_226000 := n3_
          have HO_226001 := n4_
          have HO_235000 := n5_
          have HO_235001 := n6_
          have BK216 := n7_
          have BK225 := n8_
          have BK234 := n9_
          have BK247 := n10_
          have GW247 := n11_
          have GE247 := n12_
          have NB216_247 := n13_
          have NB247_216 := n14_
          have NB225_247 := n15_
          have NB247_225 := n16_
          have NB234_247 := n17_
          have NB247_234 := n18_
          have HB := n19_
          clear n0_ n1_ n2_ n3_ n4_ n5_ n6_ n7_ n8_ n9_ n10_ n11_ n12_ n13_ n14_ n15_ n16_ n17_ n18_ n19_
          have hHeld : w47.cell? ⟨gb216,0,none⟩ = some (.slice Ao17 t208.length co17) ∧ w47.cell? ⟨gb216,1,none⟩ = some (.slice Ao19 t211.length co19) ∧ w47.cell? ⟨gb225,0,none⟩ = some (.slice Ao22 t217.length co22) ∧ w47.cell? ⟨gb225,1,none⟩ = some (.slice Ao25 t220.length co25) := hS_
          refine norm_ (a' := ?_) ?_ ?_
          rotate_left
          ·simp only [putAll,Act.put,List.setIfInBounds_toArray,List.set_cons_zero,List.set_cons_succ]
           rfl
          refine one_ (i := 8) (N := some 69) (sqB 15 10239) rfl rfl (one_of HT_.out (by kernel_rfl)) (by decide) (fun K hK => ?_)
          refine Kd.N_append_rows_step k68 (w0 := w) w.heap.size (by rfl) (.const (.slice none 0 0)) (.tmp 68) 24 68 (.agg #[(.string ⟨#[]⟩),(.slice none 0 0),(.int .i64 0)]) 48 rfl Tryz.underlying24 info68 rfl (by decide) (by omega) (.slice none 0 0) ([] : List (S68)) t211 _ _ _ (fun k_ => nB k_ (.slice Ao17 t208.length co17) ∧ nB k_ (.slice Ao22 t217.length co22) ∧ nB k_ (.slice Ao25 t220.length co25) ∧ nB k_ (.slice Ao28 t226.length co28) ∧ nB k_ (.slice Ao32 t229.length co32) ∧ nB k_ (v239) ∧ k_ ≠ gb216 ∧ k_ ≠ gb225 ∧ k_ ≠ gb234 ∧ k_ ≠ gb247) (fun k_ => ((fun k_ => nB k_ (.slice Ao17 t208.length co17) ∧ nB k_ (.slice Ao22 t217.length co22) ∧ nB k_ (.slice Ao25 t220.length co25) ∧ nB k_ (.slice Ao28 t226.length co28) ∧ nB k_ (.slice Ao32 t229.length co32) ∧ nB k_ (v239) ∧ k_ ≠ gb216 ∧ k_ ≠ gb225 ∧ k_ ≠ gb234 ∧ k_ ≠ gb247)) k_ ∧ nB k_ (.slice none 0 0)) rfl rfl ?aO ?aR (fun _ hk => hk) ?aF ?aB ?aS ?aL ?_
          (case aR => exact (by skip;exact Kd.N_F (Kd.N_mono (ok' := (fun k_ => ((fun k_ => nB k_ (.slice Ao17 t208.length co17) ∧ nB k_ (.slice Ao22 t217.length co22) ∧ nB k_ (.slice Ao25 t220.length co25) ∧ nB k_ (.slice Ao28 t226.length co28) ∧ nB k_ (.slice Ao32 t229.length co32) ∧ nB k_ (v239) ∧ k_ ≠ gb216 ∧ k_ ≠ gb225 ∧ k_ ≠ gb234 ∧ k_ ≠ gb247)) k_ ∧ nB k_ (.slice none 0 0))) (HO_217001.out) (fun k_ hk => ⟨⟨hk.2.1,⟨hk.2.2.1,⟨hk.2.2.2.1,⟨hk.2.2.2.2.1,⟨hk.2.2.2.2.2.1,⟨hk.1,⟨hk.2.2.2.2.2.2.1,⟨hk.2.2.2.2.2.2.2.1,⟨hk.2.2.2.2.2.2.2.2.1,hk.2.2.2.2.2.2.2.2.2⟩⟩⟩⟩⟩⟩⟩⟩⟩,(by simp [Value.ownBlock])⟩))))
          (case aB => exact (by repeat (with_reducible first | exact HB.out | apply Y3 | apply Y1 | apply Y2 | refine Y4 ?_ GE216.out | refine Y4 ?_ GE225.out | refine Y4 ?_ GE234.out | refine Y4 ?_ GE247.out)))
          (case aF => exact (fun k_ hk => ⟨Kd.fresh' (Kd.N_lt (by (with_reducible repeat (first | apply Y20));exact HO_217000.out)) k_ hk,Kd.fresh' (Kd.N_lt (by (with_reducible repeat (first | apply Y20));exact HO_226000.out)) k_ hk,Kd.fresh' (Kd.N_lt (by (with_reducible repeat (first | apply Y20));exact HO_226001.out)) k_ hk,Kd.fresh' (Kd.N_lt (by (with_reducible repeat (first | apply Y20));exact HO_235000.out)) k_ hk,Kd.fresh' (Kd.N_lt (by (with_reducible repeat (first | apply Y20));exact HO_235001.out)) k_ hk,Kd.fresh' (Kd.N_lt (by (with_reducible repeat (first | apply Y20));exact HO240.out)) k_ hk,Kd.freshB (g := gb216) (o := .cells #[.slice Ao17 t208.length co17,.slice Ao19 t211.length co19] 26 (0,0)) (by (with_reducible repeat first | apply Y11 | apply Y13 | apply Y12);exact BK216.out) k_ hk,Kd.freshB (g := gb225) (o := .cells #[.slice Ao22 t217.length co22,.slice Ao25 t220.length co25] 26 (0,0)) (by (with_reducible repeat first | apply Y11 | apply Y13 | apply Y12);exact BK225.out) k_ hk,Kd.freshB (g := gb234) (o := .cells #[.slice Ao28 t226.length co28,.slice Ao32 t229.length co32] 26 (0,0)) (by (with_reducible repeat first | apply Y11 | apply Y13 | apply Y12);exact BK234.out) k_ hk,Kd.freshB (g := gb247) (o := .cells #[.slice none 0 0,.slice none 0 0] 26 (0,0)) (by (with_reducible repeat first | apply Y11 | apply Y13 | apply Y12);exact BK247.out) k_ hk⟩))
          (case aO => exact ((Kd.N_nil _ _ _ _ (fun k_ => nB k_ (.slice Ao17 t208.length co17) ∧ nB k_ (.slice Ao22 t217.length co22) ∧ nB k_ (.slice Ao25 t220.length co25) ∧ nB k_ (.slice Ao28 t226.length co28) ∧ nB k_ (.slice Ao32 t229.length co32) ∧ nB k_ (v239) ∧ k_ ≠ gb216 ∧ k_ ≠ gb225 ∧ k_ ≠ gb234 ∧ k_ ≠ gb247))))
          (case aS => exact (below_size (by repeat (with_reducible first | exact HB.out | apply Y3 | apply Y1 | apply Y2 | refine Y4 ?_ GE216.out | refine Y4 ?_ GE225.out | refine Y4 ?_ GE234.out | refine Y4 ?_ GE247.out))))
          (case aL => have := LMc38.out;omega)
          intro v242 w48 ho hb hg hat
          rw [← Ny241.out] at ho
          have n0_ := Y0 (Kd.N_afterv (Kd.N_apart_nil (by (with_reducible repeat (first | apply Y20));exact HO_217000.out)) hg hat)
          have n1_ := Y0 (Kd.N_afterv (Kd.N_apart_nil (by (with_reducible repeat (first | apply Y20));exact HO_217001.out)) hg hat)
          have n2_ := Y0 (Kd.N_afterv (Kd.N_apart_nil (by (with_reducible repeat (first | apply Y20));exact HO_226000.out)) hg hat)
          have n3_ := Y0 (Kd.N_afterv (Kd.N_apart_nil (by (with_reducible repeat (first | apply Y20));exact HO_226001.out)) hg hat)
          have n4_ := Y0 (Kd.N_afterv (Kd.N_apart_nil (by (with_reducible repeat (first | apply Y20));exact HO_235000.out)) hg hat)
          have n5_ := Y0 (Kd.N_afterv (Kd.N_apart_nil (by (with_reducible repeat (first | apply Y20));exact HO_235001.out)) hg hat)
          have n6_ := Y0 (blk_grown (g := gb216) (o := .cells #[.slice Ao17 t208.length co17,.slice Ao19 t211.length co19] 26 (0,0)) (by (with_reducible repeat first | apply Y11 | apply Y13 | apply Y12);exact BK216.out) hg (by simp [Value.ownBlock]))
          have n7_ := Y0 (blk_grown (g := gb225) (o := .cells #[.slice Ao22 t217.length co22,.slice Ao25 t220.length co25] 26 (0,0)) (by (with_reducible repeat first | apply Y11 | apply Y13 | apply Y12);exact BK225.out) hg (by simp [Value.ownBlock]))
          have n8_ := Y0 (blk_grown (g := gb234) (o := .cells #[.slice Ao28 t226.length co28,.slice Ao32 t229.length co32] 26 (0,0)) (by (with_reducible repeat first | apply Y11 | apply Y13 | apply Y12);exact BK234.out) hg (by simp [Value.ownBlock]))
          have n9_ := Y0 (Kd.N_afterv (Kd.N_apart_nil (by (with_reducible repeat (first | apply Y20));exact HO240.out)) hg hat)
          have n10_ := Y0 (blk_grown (g := gb247) (o := .cells #[.slice none 0 0,.slice none 0 0] 26 (0,0)) (by (with_reducible repeat first | apply Y11 | apply Y13 | apply Y12);exact BK247.out) hg (by simp [Value.ownBlock]))
          have n11_ := Y0 (hb)
          have n12_ := Y0 (ho)
          clear HO_217000 HO_217001 HO_226000 HO_226001 HO_235000 HO_235001 BK216 BK225 BK234 HO240 BK247 HB
          have HO_217000 := n0_
          have HO_217001 := n1_
          have HO_226000 := n2_
          have HO_226001 := n3_
          have HO_235000 := n4_
          have HO_235001 := n5_
          have BK216 := n6_
          have BK225 := n7_
          have BK234 := n8_
          have HO240 := n9_
          have BK247 := n10_
          have HB := n11_
          have HO243 := n12_
          clear n0_ n1_ n2_ n3_ n4_ n5_ n6_ n7_ n8_ n9_ n10_ n11_ n12_ ho hb hg hat
          refine hK.out _ _ ⟨(blk_cell BK216.out 0).trans rfl,(blk_cell BK216.out 1).trans rfl,(blk_cell BK225.out 0).trans rfl,(blk_cell BK225.out 1).trans rfl⟩ (fun hHeld => ?_)
          clear hK K
          refine norm_ (a' := ?_) ?_ ?_
          rotate_left
          ·show Act.put _ (some 69) _ = _
           simp only [Act.put,Y14,Y15,Y16]
           rfl
          exact norm_ (by first | (simp only [putAll,Act.put,List.setIfInBounds_toArray,List.set_cons_zero,List.set_cons_succ];done) | (simp only [putAll,Act.put,List.setIfInBounds_toArray,List.set_cons_zero,List.set_cons_succ];rfl)) (hJ2_5_8_13 (v236,v239,v242,gb247) _ ⟨hHeld,(by (with_reducible repeat (first | apply Y20));exact Kd.N_mono HO240.out (fun _ hk => ⟨hk.2,⟨hk.1.1,⟨hk.1.2.1,⟨hk.1.2.2.1,⟨hk.1.2.2.2.1,⟨hk.1.2.2.2.2.1,⟨hk.1.2.2.2.2.2.1,⟨hk.1.2.2.2.2.2.2.1,hk.1.2.2.2.2.2.2.2⟩⟩⟩⟩⟩⟩⟩⟩)),(by (with_reducible repeat (first | apply Y20));exact Kd.N_mono HO243.out (fun _ hk => ⟨hk.2.2.2.2.2.1,⟨hk.1,⟨hk.2.1,⟨hk.2.2.1,⟨hk.2.2.2.1,⟨hk.2.2.2.2.1,⟨hk.2.2.2.2.2.2.1,⟨hk.2.2.2.2.2.2.2.1,⟨hk.2.2.2.2.2.2.2.2.1,hk.2.2.2.2.2.2.2.2.2⟩⟩⟩⟩⟩⟩⟩⟩⟩)),(by (with_reducible repeat (first | apply Y20));exact Kd.N_mono HO_217000.out (fun _ hk => ⟨hk.1.1,⟨hk.2,⟨hk.1.2.1,⟨hk.1.2.2.1,⟨hk.1.2.2.2.1,⟨hk.1.2.2.2.2.1,⟨hk.1.2.2.2.2.2.1,⟨hk.1.2.2.2.2.2.2.1,⟨hk.1.2.2.2.2.2.2.2.1,⟨hk.1.2.2.2.2.2.2.2.2.1,hk.1.2.2.2.2.2.2.2.2.2⟩⟩⟩⟩⟩⟩⟩⟩⟩⟩)),(by (with_reducible repeat (first | apply Y20));exact Kd.N_mono HO_217001.out (fun _ hk => ⟨hk.1.1,⟨hk.2,⟨hk.1.2.1,⟨hk.1.2.2.1,⟨hk.1.2.2.2.1,⟨hk.1.2.2.2.2.1,⟨hk.1.2.2.2.2.2.1,⟨hk.1.2.2.2.2.2.2.1,⟨hk.1.2.2.2.2.2.2.2.1,⟨hk.1.2.2.2.2.2.2.2.2.1,hk.1.2.2.2.2.2.2.2.2.2⟩⟩⟩⟩⟩⟩⟩⟩⟩⟩)),(by (with_reducible repeat (first | apply Y20));exact Kd.N_mono HO_226000.out (fun _ hk => ⟨hk.1.1,⟨hk.2,⟨hk.1.2.1,⟨hk.1.2.2.1,⟨hk.1.2.2.2.1,⟨hk.1.2.2.2.2.1,⟨hk.1.2.2.2.2.2.1,⟨hk.1.2.2.2.2.2.2.1,⟨hk.1.2.2.2.2.2.2.2.1,⟨hk.1.2.2.2.2.2.2.2.2.1,hk.1.2.2.2.2.2.2.2.2.2⟩⟩⟩⟩⟩⟩⟩⟩⟩⟩)),(by (with_reducible repeat (first | apply Y20));exact Kd.N_mono HO_226001.out (fun _ hk => ⟨hk.1.1,⟨hk.2,⟨hk.1.2.1,⟨hk.1.2.2.1,⟨hk.1.2.2.2.1,⟨hk.1.2.2.2.2.1,⟨hk.1.2.2.2.2.2.1,⟨hk.1.2.2.2.2.2.2.1,⟨hk.1.2.2.2.2.2.2.2.1,⟨hk.1.2.2.2.2.2.2.2.2.1,hk.1.2.2.2.2.2.2.2.2.2⟩⟩⟩⟩⟩⟩⟩⟩⟩⟩)),(by (with_reducible repeat (first | apply Y20));exact Kd.N_mono HO_235000.out (fun _ hk => ⟨hk.1.1,⟨hk.2,⟨hk.1.2.1,⟨hk.1.2.2.1,⟨hk.1.2.2.2.1,⟨hk.1.2.2.2.2.1,⟨hk.1.2.2.2.2.2.1,⟨hk.1.2.2.2.2.2.2.1,⟨hk.1.2.2.2.2.2.2.2.1,⟨hk.1.2.2.2.2.2.2.2.2.1,hk.1.2.2.2.2.2.2.2.2.2⟩⟩⟩⟩⟩⟩⟩⟩⟩⟩)),(by (with_reducible repeat (first | apply Y20));exact Kd.N_mono HO_235001.out (fun _ hk => ⟨hk.1.1,⟨hk.2,⟨hk.1.2.1,⟨hk.1.2.2.1,⟨hk.1.2.2.2.1,⟨hk.1.2.2.2.2.1,⟨hk.1.2.2.2.2.2.1,⟨hk.1.2.2.2.2.2.2.1,⟨hk.1.2.2.2.2.2.2.2.1,⟨hk.1.2.2.2.2.2.2.2.2.1,hk.1.2.2.2.2.2.2.2.2.2⟩⟩⟩⟩⟩⟩⟩⟩⟩⟩)),(by (with_reducible repeat first | apply Y11 | apply Y13 | apply Y12);exact BK216.out),(by (with_reducible repeat first | apply Y11 | apply Y13 | apply Y12);exact BK225.out),(by (with_reducible repeat first | apply Y11 | apply Y13 | apply Y12);exact BK234.out),(by (with_reducible repeat first | apply Y11 | apply Y13 | apply Y12);exact BK247.out),GW247.out,GE247.out,NB216_247.out,NB247_216.out,NB225_247.out,NB247_225.out,NB234_247.out,NB247_234.out,(by repeat (with_reducible first | exact HB.out | apply Y3 | apply Y1 | apply Y2 | refine Y4 ?_ GE216.out | refine Y4 ?_ GE225.out | refine Y4 ?_ GE234.out | refine Y4 ?_ GE247.out))⟩)
        ·skip
         rintro ⟨v236,v239,v242⟩ w47 ⟨hS_,h0_,h1_,h2_,h3_,h4_,h5_,h6_,h7_,h8_,h9_,h10_,h11_⟩
         have n0_ : Aside0 (Kd.N k34 34 w47 w.heap.size (fun k_ => nB k_ (v242) ∧ nB k_ (.slice Ao19 t211.length co19) ∧ nB k_ (.slice Ao25 t220.length co25) ∧ nB k_ (.slice Ao28 t226.length co28) ∧ nB k_ (.slice Ao32 t229.length co32) ∧ k_ ≠ gb216 ∧ k_ ≠ gb225 ∧ k_ ≠ gb234) v239 y238) := ⟨h0_⟩
         have n1_ : Aside0 (Kd.N k68 68 w47 w.heap.size (fun k_ => nB k_ (v239) ∧ nB k_ (.slice Ao17 t208.length co17) ∧ nB k_ (.slice Ao22 t217.length co22) ∧ nB k_ (.slice Ao25 t220.length co25) ∧ nB k_ (.slice Ao28 t226.length co28) ∧ nB k_ (.slice Ao32 t229.length co32) ∧ k_ ≠ gb216 ∧ k_ ≠ gb225 ∧ k_ ≠ gb234) v242 y241) := ⟨h1_⟩
         have n2_ : Aside0 (Kd.N k34 34 w47 w.heap.size (fun k_ => nB k_ (v239) ∧ nB k_ (v242) ∧ nB k_ (.slice Ao19 t211.length co19) ∧ nB k_ (.slice Ao22 t217.length co22) ∧ nB k_ (.slice Ao25 t220.length co25) ∧ nB k_ (.slice Ao28 t226.length co28) ∧ nB k_ (.slice Ao32 t229.length co32) ∧ k_ ≠ gb216 ∧ k_ ≠ gb225 ∧ k_ ≠ gb234) (.slice Ao17 t208.length co17) t208) := ⟨h2_⟩
         have n3_ : Aside0 (Kd.N k68 68 w47 w.heap.size (fun k_ => nB k_ (v239) ∧ nB k_ (v242) ∧ nB k_ (.slice Ao17 t208.length co17) ∧ nB k_ (.slice Ao22 t217.length co22) ∧ nB k_ (.slice Ao25 t220.length co25) ∧ nB k_ (.slice Ao28 t226.length co28) ∧ nB k_ (.slice Ao32 t229.length co32) ∧ k_ ≠ gb216 ∧ k_ ≠ gb225 ∧ k_ ≠ gb234) (.slice Ao19 t211.length co19) t211) := ⟨h3_⟩
         have n4_ : Aside0 (Kd.N k34 34 w47 w.heap.size (fun k_ => nB k_ (v239) ∧ nB k_ (v242) ∧ nB k_ (.slice Ao17 t208.length co17) ∧ nB k_ (.slice Ao19 t211.length co19) ∧ nB k_ (.slice Ao25 t220.length co25) ∧ nB k_ (.slice Ao28 t226.length co28) ∧ nB k_ (.slice Ao32 t229.length co32) ∧ k_ ≠ gb216 ∧ k_ ≠ gb225 ∧ k_ ≠ gb234) (.slice Ao22 t217.length co22) t217) := ⟨h4_⟩
         have n5_ : Aside0 (Kd.N k68 68 w47 w.heap.size (fun k_ => nB k_ (v239) ∧ nB k_ (v242) ∧ nB k_ (.slice Ao17 t208.length co17) ∧ nB k_ (.slice Ao19 t211.length co19) ∧ nB k_ (.slice Ao22 t217.length co22) ∧ nB k_ (.slice Ao28 t226.length co28) ∧ nB k_ (.slice Ao32 t229.length co32) ∧ k_ ≠ gb216 ∧ k_ ≠ gb225 ∧ k_ ≠ gb234) (.slice Ao25 t220.length co25) t220) := ⟨h5_⟩
         have n6_ : Aside0 (Kd.N k34 34 w47 w.heap.size (fun k_ => nB k_ (v239) ∧ nB k_ (v242) ∧ nB k_ (.slice Ao17 t208.length co17) ∧ nB k_ (.slice Ao19 t211.length co19) ∧ nB k_ (.slice Ao22 t217.length co22) ∧ nB k_ (.slice Ao25 t220.length co25) ∧ nB k_ (.slice Ao32 t229.length co32) ∧ k_ ≠ gb216 ∧ k_ ≠ gb225 ∧ k_ ≠ gb234) (.slice Ao28 t226.length co28) t226) := ⟨h6_⟩
         have n7_ : Aside0 (Kd.N k68 68 w47 w.heap.size (fun k_ => nB k_ (v239) ∧ nB k_ (v242) ∧ nB k_ (.slice Ao17 t208.length co17) ∧ nB k_ (.slice Ao19 t211.length co19) ∧ nB k_ (.slice Ao22 t217.length co22) ∧ nB k_ (.slice Ao25 t220.length co25) ∧ nB k_ (.slice Ao28 t226.length co28) ∧ k_ ≠ gb216 ∧ k_ ≠ gb225 ∧ k_ ≠ gb234) (.slice Ao32 t229.length co32) t229) := ⟨h7_⟩
         have n8_ : Aside0 (w47.heap[gb216]? = some (.cells #[.slice Ao17 t208.length co17,.slice Ao19 t211.length co19] 26 (0,0))) := ⟨h8_⟩
         have n9_ : Aside0 (w47.heap[gb225]? = some (.cells #[.slice Ao22 t217.length co22,.slice Ao25 t220.length co25] 26 (0,0))) := ⟨h9_⟩
         have n10_ : Aside0 (w47.heap[gb234]? = some (.cells #[.slice Ao28 t226.length co28,.slice Ao32 t229.length co32] 26 (0,0))) := ⟨h10_⟩
         have n11_ : Aside0 (Below w.heap.size w w47) := ⟨h11_⟩
         clear HO_217000 HO_217001 HO_226000 HO_226001 HO_235000 HO_235001 BK216 BK225 BK234 HB h0_ h1_ h2_ h3_ h4_ h5_ h6_ h7_ h8_ h9_ h10_ h11_
         have HO240 := n0_
         have HO243 := n1_
         have HO_217000 := n2_
         have HO_217001 := n3_
         have HO_226000 := n4_
         have HO_226001 := n5_
         have HO_235000 := n6_
         have HO_235001 := n7_
         have BK216 := n8_
         have BK225 := n9_
         have BK234 := n10_
         have HB := n11_
         clear n0_ n1_ n2_ n3_ n4_ n5_ n6_ n7_ n8_ n9_ n10_ n11_
         have hHeld : w47.cell? ⟨gb216,0,none⟩ = some (.slice Ao17 t208.length co17) ∧ w47.cell? ⟨gb216,1,none⟩ = some (.slice Ao19 t211.length co19) ∧ w47.cell? ⟨gb225,0,none⟩ = some (.slice Ao22 t217.length co22) ∧ w47.cell? ⟨gb225,1,none⟩ = some (.slice Ao25 t220.length co25) := hS_
         refine norm_ (a' := ?_) ?_ ?_
         rotate_left
         ·simp only [putAll,Act.put,List.setIfInBounds_toArray,List.set_cons_zero,List.set_cons_succ]
          rfl
         refine two_ (i := 11) (j := 13) (Ni := some 72) (Nj := some 15) #[true,true,true,true,true,true,true,true,true,true,true,true,false,false,false] #[true,true,true,true,true,true,true,true,true,true,true,false,false,true,false] rfl rfl rfl rfl (two_of HT_.out (by kernel_rfl)) (by decide) (by decide) (fun K hK => ?_) (fun K hK => ?_)
         ·skip
          refine Kd.N_append_rows_step k68 (w0 := w) w.heap.size (by rfl) (.tmp 69) (.tmp 71) 24 68 (.agg #[(.string ⟨#[]⟩),(.slice none 0 0),(.int .i64 0)]) 48 rfl Tryz.underlying24 info68 rfl (by decide) (by omega) v242 y241 t220 _ _ _ (fun k_ => nB k_ (.slice Ao17 t208.length co17) ∧ nB k_ (.slice Ao22 t217.length co22) ∧ nB k_ (.slice Ao28 t226.length co28) ∧ nB k_ (.slice Ao32 t229.length co32) ∧ nB k_ (v239) ∧ k_ ≠ gb216 ∧ k_ ≠ gb225 ∧ k_ ≠ gb234) (fun k_ => ((fun k_ => nB k_ (.slice Ao17 t208.length co17) ∧ nB k_ (.slice Ao22 t217.length co22) ∧ nB k_ (.slice Ao28 t226.length co28) ∧ nB k_ (.slice Ao32 t229.length co32) ∧ nB k_ (v239) ∧ k_ ≠ gb216 ∧ k_ ≠ gb225 ∧ k_ ≠ gb234)) k_ ∧ nB k_ (v242)) rfl rfl ?aO ?aR (fun _ hk => hk) ?aF ?aB ?aS ?aL ?_
          (case aR => exact (by skip;exact Kd.N_F (Kd.N_mono (ok' := (fun k_ => ((fun k_ => nB k_ (.slice Ao17 t208.length co17) ∧ nB k_ (.slice Ao22 t217.length co22) ∧ nB k_ (.slice Ao28 t226.length co28) ∧ nB k_ (.slice Ao32 t229.length co32) ∧ nB k_ (v239) ∧ k_ ≠ gb216 ∧ k_ ≠ gb225 ∧ k_ ≠ gb234)) k_ ∧ nB k_ (v242))) (HO_226001.out) (fun k_ hk => ⟨⟨hk.2.2.1,⟨hk.2.2.2.2.1,⟨hk.2.2.2.2.2.1,⟨hk.2.2.2.2.2.2.1,⟨hk.1,⟨hk.2.2.2.2.2.2.2.1,⟨hk.2.2.2.2.2.2.2.2.1,hk.2.2.2.2.2.2.2.2.2⟩⟩⟩⟩⟩⟩⟩,hk.2.1⟩))))
          (case aB => exact (by repeat (with_reducible first | exact HB.out | apply Y3 | apply Y1 | apply Y2 | refine Y4 ?_ GE216.out | refine Y4 ?_ GE225.out | refine Y4 ?_ GE234.out)))
          (case aF => exact (fun k_ hk => ⟨Kd.fresh' (Kd.N_lt (by (with_reducible repeat (first | apply Y20));exact HO_217000.out)) k_ hk,Kd.fresh' (Kd.N_lt (by (with_reducible repeat (first | apply Y20));exact HO_226000.out)) k_ hk,Kd.fresh' (Kd.N_lt (by (with_reducible repeat (first | apply Y20));exact HO_235000.out)) k_ hk,Kd.fresh' (Kd.N_lt (by (with_reducible repeat (first | apply Y20));exact HO_235001.out)) k_ hk,Kd.fresh' (Kd.N_lt (by (with_reducible repeat (first | apply Y20));exact HO240.out)) k_ hk,Kd.freshB (g := gb216) (o := .cells #[.slice Ao17 t208.length co17,.slice Ao19 t211.length co19] 26 (0,0)) (by (with_reducible repeat first | apply Y11 | apply Y13 | apply Y12);exact BK216.out) k_ hk,Kd.freshB (g := gb225) (o := .cells #[.slice Ao22 t217.length co22,.slice Ao25 t220.length co25] 26 (0,0)) (by (with_reducible repeat first | apply Y11 | apply Y13 | apply Y12);exact BK225.out) k_ hk,Kd.freshB (g := gb234) (o := .cells #[.slice Ao28 t226.length co28,.slice Ao32 t229.length co32] 26 (0,0)) (by (with_reducible repeat first | apply Y11 | apply Y13 | apply Y12);exact BK234.out) k_ hk⟩))
          (case aO => exact (by (with_reducible repeat (first | apply Y20));exact Kd.N_mono HO243.out (fun _ hk => ⟨hk.2.1,⟨hk.2.2.1,⟨hk.2.2.2.2.1,⟨hk.2.2.2.2.2.1,⟨hk.1,⟨hk.2.2.2.2.2.2.1,⟨hk.2.2.2.2.2.2.2.1,hk.2.2.2.2.2.2.2.2⟩⟩⟩⟩⟩⟩⟩)))
          (case aS => exact (below_size (by repeat (with_reducible first | exact HB.out | apply Y3 | apply Y1 | apply Y2 | refine Y4 ?_ GE216.out | refine Y4 ?_ GE225.out | refine Y4 ?_ GE234.out))))
          (case aL => have := LMc39.out;omega)
          intro v245 w48 ho hb hg hat
          rw [← Ny244.out] at ho
          have n0_ := Y0 (Kd.N_afterv (ok := (fun k_ => nB k_ (.slice Ao19 t211.length co19) ∧ nB k_ (.slice Ao22 t217.length co22) ∧ nB k_ (.slice Ao25 t220.length co25) ∧ nB k_ (.slice Ao28 t226.length co28) ∧ nB k_ (.slice Ao32 t229.length co32) ∧ nB k_ (v239) ∧ k_ ≠ gb216 ∧ k_ ≠ gb225 ∧ k_ ≠ gb234)) (by (with_reducible repeat (first | apply Y20));exact Kd.N_mono HO_217000.out (fun _ hk => ⟨⟨hk.2.2.1,⟨hk.2.2.2.1,⟨hk.2.2.2.2.1,⟨hk.2.2.2.2.2.1,⟨hk.2.2.2.2.2.2.1,⟨hk.1,⟨hk.2.2.2.2.2.2.2.1,⟨hk.2.2.2.2.2.2.2.2.1,hk.2.2.2.2.2.2.2.2.2⟩⟩⟩⟩⟩⟩⟩⟩,hk.2.1⟩)) hg hat)
          have n1_ := Y0 (Kd.N_afterv (ok := (fun k_ => nB k_ (.slice Ao17 t208.length co17) ∧ nB k_ (.slice Ao22 t217.length co22) ∧ nB k_ (.slice Ao25 t220.length co25) ∧ nB k_ (.slice Ao28 t226.length co28) ∧ nB k_ (.slice Ao32 t229.length co32) ∧ nB k_ (v239) ∧ k_ ≠ gb216 ∧ k_ ≠ gb225 ∧ k_ ≠ gb234)) (by (with_reducible repeat (first | apply Y20));exact Kd.N_mono HO_217001.out (fun _ hk => ⟨⟨hk.2.2.1,⟨hk.2.2.2.1,⟨hk.2.2.2.2.1,⟨hk.2.2.2.2.2.1,⟨hk.2.2.2.2.2.2.1,⟨hk.1,⟨hk.2.2.2.2.2.2.2.1,⟨hk.2.2.2.2.2.2.2.2.1,hk.2.2.2.2.2.2.2.2.2⟩⟩⟩⟩⟩⟩⟩⟩,hk.2.1⟩)) hg hat)
          have n2_ := Y0 (Kd.N_afterv (ok := (fun k_ => nB k_ (.slice Ao17 t208.length co17) ∧ nB k_ (.slice Ao19 t211.length co19) ∧ nB k_ (.slice Ao25 t220.length co25) ∧ nB k_ (.slice Ao28 t226.length co28) ∧ nB k_ (.slice Ao32 t229.length co32) ∧ nB k_ (v239) ∧ k_ ≠ gb216 ∧ k_ ≠ gb225 ∧ k_ ≠ gb234)) (by (with_reducible repeat (first | apply Y20));exact Kd.N_mono HO_226000.out (fun _ hk => ⟨⟨hk.2.2.1,⟨hk.2.2.2.1,⟨hk.2.2.2.2.1,⟨hk.2.2.2.2.2.1,⟨hk.2.2.2.2.2.2.1,⟨hk.1,⟨hk.2.2.2.2.2.2.2.1,⟨hk.2.2.2.2.2.2.2.2.1,hk.2.2.2.2.2.2.2.2.2⟩⟩⟩⟩⟩⟩⟩⟩,hk.2.1⟩)) hg hat)
          have n3_ := Y0 (Kd.N_afterv (ok := (fun k_ => nB k_ (.slice Ao17 t208.length co17) ∧ nB k_ (.slice Ao19 t211.length co19) ∧ nB k_ (.slice Ao22 t217.length co22) ∧ nB k_ (.slice Ao28 t226.length co28) ∧ nB k_ (.slice Ao32 t229.length co32) ∧ nB k_ (v239) ∧ k_ ≠ gb216 ∧ k_ ≠ gb225 ∧ k_ ≠ gb234)) (by (with_reducible repeat (first | apply Y20));exact Kd.N_mono HO_226001.out (fun _ hk => ⟨⟨hk.2.2.1,⟨hk.2.2.2.1,⟨hk.2.2.2.2.1,⟨hk.2.2.2.2.2.1,⟨hk.2.2.2.2.2.2.1,⟨hk.1,⟨hk.2.2.2.2.2.2.2.1,⟨hk.2.2.2.2.2.2.2.2.1,hk.2.2.2.2.2.2.2.2.2⟩⟩⟩⟩⟩⟩⟩⟩,hk.2.1⟩)) hg hat)
          have n4_ := Y0 (Kd.N_afterv (ok := (fun k_ => nB k_ (.slice Ao17 t208.length co17) ∧ nB k_ (.slice Ao19 t211.length co19) ∧ nB k_ (.slice Ao22 t217.length co22) ∧ nB k_ (.slice Ao25 t220.length co25) ∧ nB k_ (.slice Ao32 t229.length co32) ∧ nB k_ (v239) ∧ k_ ≠ gb216 ∧ k_ ≠ gb225 ∧ k_ ≠ gb234)) (by (with_reducible repeat (first | apply Y20));exact Kd.N_mono HO_235000.out (fun _ hk => ⟨⟨hk.2.2.1,⟨hk.2.2.2.1,⟨hk.2.2.2.2.1,⟨hk.2.2.2.2.2.1,⟨hk.2.2.2.2.2.2.1,⟨hk.1,⟨hk.2.2.2.2.2.2.2.1,⟨hk.2.2.2.2.2.2.2.2.1,hk.2.2.2.2.2.2.2.2.2⟩⟩⟩⟩⟩⟩⟩⟩,hk.2.1⟩)) hg hat)
          have n5_ := Y0 (Kd.N_afterv (ok := (fun k_ => nB k_ (.slice Ao17 t208.length co17) ∧ nB k_ (.slice Ao19 t211.length co19) ∧ nB k_ (.slice Ao22 t217.length co22) ∧ nB k_ (.slice Ao25 t220.length co25) ∧ nB k_ (.slice Ao28 t226.length co28) ∧ nB k_ (v239) ∧ k_ ≠ gb216 ∧ k_ ≠ gb225 ∧ k_ ≠ gb234)) (by (with_reducible repeat (first | apply Y20));exact Kd.N_mono HO_235001.out (fun _ hk => ⟨⟨hk.2.2.1,⟨hk.2.2.2.1,⟨hk.2.2.2.2.1,⟨hk.2.2.2.2.2.1,⟨hk.2.2.2.2.2.2.1,⟨hk.1,⟨hk.2.2.2.2.2.2.2.1,⟨hk.2.2.2.2.2.2.2.2.1,hk.2.2.2.2.2.2.2.2.2⟩⟩⟩⟩⟩⟩⟩⟩,hk.2.1⟩)) hg hat)
          have n6_ := Y0 (blk_grown (g := gb216) (o := .cells #[.slice Ao17 t208.length co17,.slice Ao19 t211.length co19] 26 (0,0)) (by (with_reducible repeat first | apply Y11 | apply Y13 | apply Y12);exact BK216.out) hg (Kd.N_ne HO243.out BK216.out (by decide)))
          have n7_ := Y0 (blk_grown (g := gb225) (o := .cells #[.slice Ao22 t217.length co22,.slice Ao25 t220.length co25] 26 (0,0)) (by (with_reducible repeat first | apply Y11 | apply Y13 | apply Y12);exact BK225.out) hg (Kd.N_ne HO243.out BK225.out (by decide)))
          have n8_ := Y0 (blk_grown (g := gb234) (o := .cells #[.slice Ao28 t226.length co28,.slice Ao32 t229.length co32] 26 (0,0)) (by (with_reducible repeat first | apply Y11 | apply Y13 | apply Y12);exact BK234.out) hg (Kd.N_ne HO243.out BK234.out (by decide)))
          have n9_ := Y0 (Kd.N_afterv (ok := (fun k_ => nB k_ (.slice Ao19 t211.length co19) ∧ nB k_ (.slice Ao25 t220.length co25) ∧ nB k_ (.slice Ao28 t226.length co28) ∧ nB k_ (.slice Ao32 t229.length co32) ∧ k_ ≠ gb216 ∧ k_ ≠ gb225 ∧ k_ ≠ gb234)) (by (with_reducible repeat (first | apply Y20));exact Kd.N_mono HO240.out (fun _ hk => ⟨⟨hk.2.1,⟨hk.2.2.1,⟨hk.2.2.2.1,⟨hk.2.2.2.2.1,⟨hk.2.2.2.2.2.1,⟨hk.2.2.2.2.2.2.1,hk.2.2.2.2.2.2.2⟩⟩⟩⟩⟩⟩,hk.1⟩)) hg hat)
          have n10_ := Y0 (hb)
          have n11_ := Y0 (ho)
          clear HO_217000 HO_217001 HO_226000 HO_226001 HO_235000 HO_235001 BK216 BK225 BK234 HO240 HB HO243
          have HO_217000 := n0_
          have HO_217001 := n1_
          have HO_226000 := n2_
          have HO_226001 := n3_
          have HO_235000 := n4_
          have HO_235001 := n5_
          have BK216 := n6_
          have BK225 := n7_
          have BK234 := n8_
          have HO240 := n9_
          have HB := n10_
          have HO246 := n11_
          clear n0_ n1_ n2_ n3_ n4_ n5_ n6_ n7_ n8_ n9_ n10_ n11_ ho hb hg hat
          obtain ⟨Ao49,co49,eo49⟩ := Kd.N_slice HO246.out
          (first | subst eo49 | (injection eo49 with f1_ f2_ f3_;have f4_ := f1_.symm;have f5_ := f3_.symm;clear f1_ f2_ f3_;subst f4_;subst f5_))
          obtain ⟨Ao50,co50,eo50⟩ := Kd.N_slice HO240.out
          (first | subst eo50 | (injection eo50 with f1_ f2_ f3_;have f4_ := f1_.symm;have f5_ := f3_.symm;clear f1_ f2_ f3_;subst f4_;subst f5_))
          refine hK.out _ _ ⟨(blk_cell BK216.out 0).trans rfl,(blk_cell BK216.out 1).trans rfl,(blk_cell BK225.out 0).trans rfl,(blk_cell BK225.out 1).trans rfl⟩ (fun hHeld => ?_)
          clear hK K
          refine norm_ (a' := ?_) ?_ ?_
          rotate_left
          ·show Act.put _ (some 72) _ = _
           simp only [Act.put,Y14,Y15,Y16]
           rfl
          refine pure_ (i := 12) (N := some 73) (v := ?_) (a' := ?_) (sqB 15 8191) rfl rfl (any_of HT_.out (by kernel_rfl)) (fun _ _ _ h => h) (Or.inl ⟨by rfl,?_⟩) ?_ ?_
          rotate_left
          ·intro w'
           go_simp
           with_reducible rfl
          rotate_left
          ·simp only [Act.put,Y14,Y15,Y16]
           rfl
          exact norm_ (by first | (simp only [putAll,Act.put,List.setIfInBounds_toArray,List.set_cons_zero,List.set_cons_succ];done) | (simp only [putAll,Act.put,List.setIfInBounds_toArray,List.set_cons_zero,List.set_cons_succ];rfl)) (hJ2_5_8_11 (v236,.slice Ao50 y238.length co50,v242,.slice Ao49 y244.length co49) _ ⟨hHeld,(by (with_reducible repeat (first | apply Y20));exact Kd.N_mono HO240.out (fun _ hk => ⟨hk.2,⟨hk.1.1,⟨hk.1.2.1,⟨hk.1.2.2.1,⟨hk.1.2.2.2.1,⟨hk.1.2.2.2.2.1,⟨hk.1.2.2.2.2.2.1,hk.1.2.2.2.2.2.2⟩⟩⟩⟩⟩⟩⟩)),(by (with_reducible repeat (first | apply Y20));exact Kd.N_mono HO246.out (fun _ hk => ⟨hk.2.2.2.2.1,⟨hk.1,⟨hk.2.1,⟨hk.2.2.1,⟨hk.2.2.2.1,⟨hk.2.2.2.2.2.1,⟨hk.2.2.2.2.2.2.1,hk.2.2.2.2.2.2.2⟩⟩⟩⟩⟩⟩⟩)),(by (with_reducible repeat (first | apply Y20));exact Kd.N_mono HO_217000.out (fun _ hk => ⟨hk.1.2.2.2.2.2.1,⟨hk.2,⟨hk.1.1,⟨hk.1.2.1,⟨hk.1.2.2.1,⟨hk.1.2.2.2.1,⟨hk.1.2.2.2.2.1,⟨hk.1.2.2.2.2.2.2.1,⟨hk.1.2.2.2.2.2.2.2.1,hk.1.2.2.2.2.2.2.2.2⟩⟩⟩⟩⟩⟩⟩⟩⟩)),(by (with_reducible repeat (first | apply Y20));exact Kd.N_mono HO_217001.out (fun _ hk => ⟨hk.1.2.2.2.2.2.1,⟨hk.2,⟨hk.1.1,⟨hk.1.2.1,⟨hk.1.2.2.1,⟨hk.1.2.2.2.1,⟨hk.1.2.2.2.2.1,⟨hk.1.2.2.2.2.2.2.1,⟨hk.1.2.2.2.2.2.2.2.1,hk.1.2.2.2.2.2.2.2.2⟩⟩⟩⟩⟩⟩⟩⟩⟩)),(by (with_reducible repeat (first | apply Y20));exact Kd.N_mono HO_226000.out (fun _ hk => ⟨hk.1.2.2.2.2.2.1,⟨hk.2,⟨hk.1.1,⟨hk.1.2.1,⟨hk.1.2.2.1,⟨hk.1.2.2.2.1,⟨hk.1.2.2.2.2.1,⟨hk.1.2.2.2.2.2.2.1,⟨hk.1.2.2.2.2.2.2.2.1,hk.1.2.2.2.2.2.2.2.2⟩⟩⟩⟩⟩⟩⟩⟩⟩)),(by (with_reducible repeat (first | apply Y20));exact Kd.N_mono HO_226001.out (fun _ hk => ⟨hk.1.2.2.2.2.2.1,⟨hk.2,⟨hk.1.1,⟨hk.1.2.1,⟨hk.1.2.2.1,⟨hk.1.2.2.2.1,⟨hk.1.2.2.2.2.1,⟨hk.1.2.2.2.2.2.2.1,⟨hk.1.2.2.2.2.2.2.2.1,hk.1.2.2.2.2.2.2.2.2⟩⟩⟩⟩⟩⟩⟩⟩⟩)),(by (with_reducible repeat (first | apply Y20));exact Kd.N_mono HO_235000.out (fun _ hk => ⟨hk.1.2.2.2.2.2.1,⟨hk.2,⟨hk.1.1,⟨hk.1.2.1,⟨hk.1.2.2.1,⟨hk.1.2.2.2.1,⟨hk.1.2.2.2.2.1,⟨hk.1.2.2.2.2.2.2.1,⟨hk.1.2.2.2.2.2.2.2.1,hk.1.2.2.2.2.2.2.2.2⟩⟩⟩⟩⟩⟩⟩⟩⟩)),(by (with_reducible repeat (first | apply Y20));exact Kd.N_mono HO_235001.out (fun _ hk => ⟨hk.1.2.2.2.2.2.1,⟨hk.2,⟨hk.1.1,⟨hk.1.2.1,⟨hk.1.2.2.1,⟨hk.1.2.2.2.1,⟨hk.1.2.2.2.2.1,⟨hk.1.2.2.2.2.2.2.1,⟨hk.1.2.2.2.2.2.2.2.1,hk.1.2.2.2.2.2.2.2.2⟩⟩⟩⟩⟩⟩⟩⟩⟩)),(by (with_reducible repeat first | apply Y11 | apply Y13 | apply Y12);exact BK216.out),(by (with_reducible repeat first | apply Y11 | apply Y13 | apply Y12);exact BK225.out),(by (with_reducible repeat first | apply Y11 | apply Y13 | apply Y12);exact BK234.out),(by repeat (with_reducible first | exact HB.out | apply Y3 | apply Y1 | apply Y2 | refine Y4 ?_ GE216.out | refine Y4 ?_ GE225.out | refine Y4 ?_ GE234.out))⟩)
         ·skip
          refine box_step ?hg (N := 15) ?hd (cs := #[.slice none 0 0,.slice none 0 0]) (t := 26) ?hr ?_;(case hd => rfl);(case hg => rfl);(case hr => first | (go_simp;done) | (go_simp;rfl))
          intro gb247 hg w48 hbox hb
          have n0_ := Y0 (Kd.N_below (Kd.N_elderB (by (with_reducible repeat (first | apply Y20));exact HO_217000.out) gb247 (Nat.le_of_eq hg.symm)) hb)
          have n1_ := Y0 (Kd.N_below (Kd.N_elderB (by (with_reducible repeat (first | apply Y20));exact HO_217001.out) gb247 (Nat.le_of_eq hg.symm)) hb)
          have n2_ := Y0 (Kd.N_below (Kd.N_elderB (by (with_reducible repeat (first | apply Y20));exact HO_226000.out) gb247 (Nat.le_of_eq hg.symm)) hb)
          have n3_ := Y0 (Kd.N_below (Kd.N_elderB (by (with_reducible repeat (first | apply Y20));exact HO_226001.out) gb247 (Nat.le_of_eq hg.symm)) hb)
          have n4_ := Y0 (Kd.N_below (Kd.N_elderB (by (with_reducible repeat (first | apply Y20));exact HO_235000.out) gb247 (Nat.le_of_eq hg.symm)) hb)
          have n5_ := Y0 (Kd.N_below (Kd.N_elderB (by (with_reducible repeat (first | apply Y20));exact HO_235001.out) gb247 (Nat.le_of_eq hg.symm)) hb)
          have n6_ := Y0 (Kd.N_below (Kd.N_elderB (by (with_reducible repeat (first | apply Y20));exact HO240.out) gb247 (Nat.le_of_eq hg.symm)) hb)
          have n7_ := Y0 (Kd.N_below (Kd.N_elderB (by (with_reducible repeat (first | apply Y20));exact HO243.out) gb247 (Nat.le_of_eq hg.symm)) hb)
          have n8_ := Y0 (blk_below (g := gb216) (o := .cells #[.slice Ao17 t208.length co17,.slice Ao19 t211.length co19] 26 (0,0)) (by (with_reducible repeat first | apply Y11 | apply Y13 | apply Y12);exact BK216.out) hb)
          have n9_ := Y0 (blk_below (g := gb225) (o := .cells #[.slice Ao22 t217.length co22,.slice Ao25 t220.length co25] 26 (0,0)) (by (with_reducible repeat first | apply Y11 | apply Y13 | apply Y12);exact BK225.out) hb)
          have n10_ := Y0 (blk_below (g := gb234) (o := .cells #[.slice Ao28 t226.length co28,.slice Ao32 t229.length co32] 26 (0,0)) (by (with_reducible repeat first | apply Y11 | apply Y13 | apply Y12);exact BK234.out) hb)
          have n11_ := Y0 (below_step (by repeat (with_reducible first | exact HB.out | apply Y3 | apply Y1 | apply Y2 | refine Y4 ?_ GE216.out | refine Y4 ?_ GE225.out | refine Y4 ?_ GE234.out)) hb)
          have n12_ := Y0 (hbox)
          have n13_ := Y0 ((by rw [hg];exact (below_size (by repeat (with_reducible first | exact HB.out | apply Y3 | apply Y1 | apply Y2 | refine Y4 ?_ GE216.out | refine Y4 ?_ GE225.out | refine Y4 ?_ GE234.out))) : w.heap.size ≤ gb247))
          have n14_ := Y0 ((by rw [hg];exact (below_size (by repeat (with_reducible first | exact HB.out | apply Y3 | apply Y1 | apply Y2 | refine Y4 ?_ GE216.out | refine Y4 ?_ GE225.out | refine Y4 ?_ GE234.out))) : w.heap.size ≤ gb247))
          have n15_ := Y0 ((by rw [hg];exact Nat.ne_of_lt (blk_lt (g := gb216) (o := .cells #[.slice Ao17 t208.length co17,.slice Ao19 t211.length co19] 26 (0,0)) (by (with_reducible repeat first | apply Y11 | apply Y13 | apply Y12);exact BK216.out)) : gb216 ≠ gb247))
          have n16_ := Y0 ((by rw [hg];exact Nat.ne_of_gt (blk_lt (g := gb216) (o := .cells #[.slice Ao17 t208.length co17,.slice Ao19 t211.length co19] 26 (0,0)) (by (with_reducible repeat first | apply Y11 | apply Y13 | apply Y12);exact BK216.out)) : gb247 ≠ gb216))
          have n17_ := Y0 ((by rw [hg];exact Nat.ne_of_lt (blk_lt (g := gb225) (o := .cells #[.slice Ao22 t217.length co22,.slice Ao25 t220.length co25] 26 (0,0)) (by (with_reducible repeat first | apply Y11 | apply Y13 | apply Y12);exact BK225.out)) : gb225 ≠ gb247))
          have n18_ := Y0 ((by rw [hg];exact Nat.ne_of_gt (blk_lt (g := gb225) (o := .cells #[.slice Ao22 t217.length co22,.slice Ao25 t220.length co25] 26 (0,0)) (by (with_reducible repeat first | apply Y11 | apply Y13 | apply Y12);exact BK225.out)) : gb247 ≠ gb225))
          have n19_ := Y0 ((by rw [hg];exact Nat.ne_of_lt (blk_lt (g := gb234) (o := .cells #[.slice Ao28 t226.length co28,.slice Ao32 t229.length co32] 26 (0,0)) (by (with_reducible repeat first | apply Y11 | apply Y13 | apply Y12);exact BK234.out)) : gb234 ≠ gb247))
          have n20_ := Y0 ((by rw [hg];exact Nat.ne_of_gt (blk_lt (g := gb234) (o := .cells #[.slice Ao28 t226.length co28,.slice Ao32 t229.length co32] 26 (0,0)) (by (with_reducible repeat first | apply Y11 | apply Y13 | apply Y12);exact BK234.out)) : gb247 ≠ gb234))
          clear HO_217000 HO_217001 HO_226000 HO_226001 HO_235000 HO_235001 HO240 HO243 BK216 BK225 BK234 HB
          have HO_217000 := n0_
          have HO_217001 := n1_
          have HO_226000 := n2_
          have HO_226001 := n3_
          have HO_235000 := n4_
          have HO_235001 := n5_
          have HO240 := n6_
          have HO243 := n7_
          have BK216 := n8_
          have BK225 := n9_
          have BK234 := n10_
          have HB := n11_
          have BK247 := n12_
          have GW247 := n13_
          have GE247 := n14_
          have NB216_247 := n15_
          have NB247_216 := n16_
          have NB225_247 := n17_
          have NB247_225 := n18_
          have NB234_247 := n19_
          have NB247_234 := n20_
          clear n0_ n1_ n2_ n3_ n4_ n5_ n6_ n7_ n8_ n9_ n10_ n11_ n12_ n13_ n14_ n15_ n16_ n17_ n18_ n19_ n20_ hb hbox hg
          refine hK.out _ _ ⟨(blk_cell BK216.out 0).trans rfl,(blk_cell BK216.out 1).trans rfl,(blk_cell BK225.out 0).trans rfl,(blk_cell BK225.out 1).trans rfl⟩ (fun hHeld => ?_)
          clear hK K
          refine norm_ (a' := ?_) ?_ ?_
          rotate_left
          ·show Act.put _ (some 15) _ = _
           simp only [Act.put,Y14,Y15,Y16]
           rfl
          exact norm_ (by first | (simp only [putAll,Act.put,List.setIfInBounds_toArray,List.set_cons_zero,List.set_cons_succ];done) | (simp only [putAll,Act.put,List.setIfInBounds_toArray,List.set_cons_zero,List.set_cons_succ];rfl)) (hJ2_5_8_13 (v236,v239,v242,gb247) _ ⟨hHeld,(by (with_reducible repeat (first | apply Y20));exact Kd.N_mono HO240.out (fun _ hk => ⟨hk.1.1,⟨hk.1.2.1,⟨hk.1.2.2.1,⟨hk.1.2.2.2.1,⟨hk.1.2.2.2.2.1,⟨hk.1.2.2.2.2.2.1,⟨hk.1.2.2.2.2.2.2.1,⟨hk.1.2.2.2.2.2.2.2,hk.2⟩⟩⟩⟩⟩⟩⟩⟩)),(by (with_reducible repeat (first | apply Y20));exact Kd.N_mono HO243.out (fun _ hk => ⟨hk.1.1,⟨hk.1.2.1,⟨hk.1.2.2.1,⟨hk.1.2.2.2.1,⟨hk.1.2.2.2.2.1,⟨hk.1.2.2.2.2.2.1,⟨hk.1.2.2.2.2.2.2.1,⟨hk.1.2.2.2.2.2.2.2.1,⟨hk.1.2.2.2.2.2.2.2.2,hk.2⟩⟩⟩⟩⟩⟩⟩⟩⟩)),(by (with_reducible repeat (first | apply Y20));exact Kd.N_mono HO_217000.out (fun _ hk => ⟨hk.1.1,⟨hk.1.2.1,⟨hk.1.2.2.1,⟨hk.1.2.2.2.1,⟨hk.1.2.2.2.2.1,⟨hk.1.2.2.2.2.2.1,⟨hk.1.2.2.2.2.2.2.1,⟨hk.1.2.2.2.2.2.2.2.1,⟨hk.1.2.2.2.2.2.2.2.2.1,⟨hk.1.2.2.2.2.2.2.2.2.2,hk.2⟩⟩⟩⟩⟩⟩⟩⟩⟩⟩)),(by (with_reducible repeat (first | apply Y20));exact Kd.N_mono HO_217001.out (fun _ hk => ⟨hk.1.1,⟨hk.1.2.1,⟨hk.1.2.2.1,⟨hk.1.2.2.2.1,⟨hk.1.2.2.2.2.1,⟨hk.1.2.2.2.2.2.1,⟨hk.1.2.2.2.2.2.2.1,⟨hk.1.2.2.2.2.2.2.2.1,⟨hk.1.2.2.2.2.2.2.2.2.1,⟨hk.1.2.2.2.2.2.2.2.2.2,hk.2⟩⟩⟩⟩⟩⟩⟩⟩⟩⟩)),(by (with_reducible repeat (first | apply Y20));exact Kd.N_mono HO_226000.out (fun _ hk => ⟨hk.1.1,⟨hk.1.2.1,⟨hk.1.2.2.1,⟨hk.1.2.2.2.1,⟨hk.1.2.2.2.2.1,⟨hk.1.2.2.2.2.2.1,⟨hk.1.2.2.2.2.2.2.1,⟨hk.1.2.2.2.2.2.2.2.1,⟨hk.1.2.2.2.2.2.2.2.2.1,⟨hk.1.2.2.2.2.2.2.2.2.2,hk.2⟩⟩⟩⟩⟩⟩⟩⟩⟩⟩)),(by (with_reducible repeat (first | apply Y20));exact Kd.N_mono HO_226001.out (fun _ hk => ⟨hk.1.1,⟨hk.1.2.1,⟨hk.1.2.2.1,⟨hk.1.2.2.2.1,⟨hk.1.2.2.2.2.1,⟨hk.1.2.2.2.2.2.1,⟨hk.1.2.2.2.2.2.2.1,⟨hk.1.2.2.2.2.2.2.2.1,⟨hk.1.2.2.2.2.2.2.2.2.1,⟨hk.1.2.2.2.2.2.2.2.2.2,hk.2⟩⟩⟩⟩⟩⟩⟩⟩⟩⟩)),(by (with_reducible repeat (first | apply Y20));exact Kd.N_mono HO_235000.out (fun _ hk => ⟨hk.1.1,⟨hk.1.2.1,⟨hk.1.2.2.1,⟨hk.1.2.2.2.1,⟨hk.1.2.2.2.2.1,⟨hk.1.2.2.2.2.2.1,⟨hk.1.2.2.2.2.2.2.1,⟨hk.1.2.2.2.2.2.2.2.1,⟨hk.1.2.2.2.2.2.2.2.2.1,⟨hk.1.2.2.2.2.2.2.2.2.2,hk.2⟩⟩⟩⟩⟩⟩⟩⟩⟩⟩)),(by (with_reducible repeat (first | apply Y20));exact Kd.N_mono HO_235001.out (fun _ hk => ⟨hk.1.1,⟨hk.1.2.1,⟨hk.1.2.2.1,⟨hk.1.2.2.2.1,⟨hk.1.2.2.2.2.1,⟨hk.1.2.2.2.2.2.1,⟨hk.1.2.2.2.2.2.2.1,⟨hk.1.2.2.2.2.2.2.2.1,⟨hk.1.2.2.2.2.2.2.2.2.1,⟨hk.1.2.2.2.2.2.2.2.2.2,hk.2⟩⟩⟩⟩⟩⟩⟩⟩⟩⟩)),(by (with_reducible repeat first | apply Y11 | apply Y13 | apply Y12);exact BK216.out),(by (with_reducible repeat first | apply Y11 | apply Y13 | apply Y12);exact BK225.out),(by (with_reducible repeat first | apply Y11 | apply Y13 | apply Y12);exact BK234.out),(by (with_reducible repeat first | apply Y11 | apply Y13 | apply Y12);exact BK247.out),GW247.out,GE247.out,NB216_247.out,NB247_216.out,NB225_247.out,NB247_225.out,NB234_247.out,NB247_234.out,(by repeat (with_reducible first | exact HB.out | apply Y3 | apply Y1 | apply Y2 | refine Y4 ?_ GE216.out | refine Y4 ?_ GE225.out | refine Y4 ?_ GE234.out | refine Y4 ?_ GE247.out))⟩)
       ·skip
        rintro ⟨v236,v239,v242,gb247⟩ w48 ⟨hS_,h0_,h1_,h2_,h3_,h4_,h5_,h6_,h7_,h8_,h9_,h10_,h11_,h12_,h13_,h14_,h15_,h16_,h17_,h18_,h19_,h20_⟩
        have n0_ : Aside0 (Kd.N k34 34 w48 w.heap.size (fun k_ => nB k_ (v242) ∧ nB k_ (.slice Ao19 t211.length co19) ∧ nB k_ (.slice Ao25 t220.length co25) ∧ nB k_ (.slice Ao28 t226.length co28) ∧ nB k_ (.slice Ao32 t229.length co32) ∧ k_ ≠ gb216 ∧ k_ ≠ gb225 ∧ k_ ≠ gb234 ∧ k_ ≠ gb247) v239 y238) := ⟨h0_⟩
        have n1_ : Aside0 (Kd.N k68 68 w48 w.heap.size (fun k_ => nB k_ (v239) ∧ nB k_ (.slice Ao17 t208.length co17) ∧ nB k_ (.slice Ao22 t217.length co22) ∧ nB k_ (.slice Ao25 t220.length co25) ∧ nB k_ (.slice Ao28 t226.length co28) ∧ nB k_ (.slice Ao32 t229.length co32) ∧ k_ ≠ gb216 ∧ k_ ≠ gb225 ∧ k_ ≠ gb234 ∧ k_ ≠ gb247) v242 y241) := ⟨h1_⟩
        have n2_ : Aside0 (Kd.N k34 34 w48 w.heap.size (fun k_ => nB k_ (v239) ∧ nB k_ (v242) ∧ nB k_ (.slice Ao19 t211.length co19) ∧ nB k_ (.slice Ao22 t217.length co22) ∧ nB k_ (.slice Ao25 t220.length co25) ∧ nB k_ (.slice Ao28 t226.length co28) ∧ nB k_ (.slice Ao32 t229.length co32) ∧ k_ ≠ gb216 ∧ k_ ≠ gb225 ∧ k_ ≠ gb234 ∧ k_ ≠ gb247) (.slice Ao17 t208.length co17) t208) := ⟨h2_⟩
        have n3_ : Aside0 (Kd.N k68 68 w48 w.heap.size (fun k_ => nB k_ (v239) ∧ nB k_ (v242) ∧ nB k_ (.slice Ao17 t208.length co17) ∧ nB k_ (.slice Ao22 t217.length co22) ∧ nB k_ (.slice Ao25 t220.length co25) ∧ nB k_ (.slice Ao28 t226.length co28) ∧ nB k_ (.slice Ao32 t229.length co32) ∧ k_ ≠ gb216 ∧ k_ ≠ gb225 ∧ k_ ≠ gb234 ∧ k_ ≠ gb247) (.slice Ao19 t211.length co19) t211) := ⟨h3_⟩
        have n4_ : Aside0 (Kd.N k34 34 w48 w.heap.size (fun k_ => nB k_ (v239) ∧ nB k_ (v242) ∧ nB k_ (.slice Ao17 t208.length co17) ∧ nB k_ (.slice Ao19 t211.length co19) ∧ nB k_ (.slice Ao25 t220.length co25) ∧ nB k_ (.slice Ao28 t226.length co28) ∧ nB k_ (.slice Ao32 t229.length co32) ∧ k_ ≠ gb216 ∧ k_ ≠ gb225 ∧ k_ ≠ gb234 ∧ k_ ≠ gb247) (.slice Ao22 t217.length co22) t217) := ⟨h4_⟩
        have n5_ : Aside0 (Kd.N k68 68 w48 w.heap.size (fun k_ => nB k_ (v239) ∧ nB k_ (v242) ∧ nB k_ (.slice Ao17 t208.length co17) ∧ nB k_ (.slice Ao19 t211.length co19) ∧ nB k_ (.slice Ao22 t217.length co22) ∧ nB k_ (.slice Ao28 t226.length co28) ∧ nB k_ (.slice Ao32 t229.length co32) ∧ k_ ≠ gb216 ∧ k_ ≠ gb225 ∧ k_ ≠ gb234 ∧ k_ ≠ gb247) (.slice Ao25 t220.length co25) t220) := ⟨h5_⟩
        have n6_ : Aside0 (Kd.N k34 34 w48 w.heap.size (fun k_ => nB k_ (v239) ∧ nB k_ (v242) ∧ nB k_ (.slice Ao17 t208.length co17) ∧ nB k_ (.slice Ao19 t211.length co19) ∧ nB k_ (.slice Ao22 t217.length co22) ∧ nB k_ (.slice Ao25 t220.length co25) ∧ nB k_ (.slice Ao32 t229.length co32) ∧ k_ ≠ gb216 ∧ k_ ≠ gb225 ∧ k_ ≠ gb234 ∧ k_ ≠ gb247) (.slice Ao28 t226.length co28) t226) := ⟨h6_⟩
        have n7_ : Aside0 (Kd.N k68 68 w48 w.heap.size (fun k_ => nB k_ (v239) ∧ nB k_ (v242) ∧ nB k_ (.slice Ao17 t208.length co17) ∧ nB k_ (.slice Ao19 t211.length co19) ∧ nB k_ (.slice Ao22 t217.length co22) ∧ nB k_ (.slice Ao25 t220.length co25) ∧ nB k_ (.slice Ao28 t226.length co28) ∧ k_ ≠ gb216 ∧ k_ ≠ gb225 ∧ k_ ≠ gb234 ∧ k_ ≠ gb247) (.slice Ao32 t229.length co32) t229) := ⟨h7_⟩
        have n8_ : Aside0 (w48.heap[gb216]? = some (.cells #[.slice Ao17 t208.length co17,.slice Ao19 t211.length co19] 26 (0,0))) := ⟨h8_⟩
        have n9_ : Aside0 (w48.heap[gb225]? = some (.cells #[.slice Ao22 t217.length co22,.slice Ao25 t220.length co25] 26 (0,0))) := ⟨h9_⟩
        have n10_ : Aside0 (w48.heap[gb234]? = some (.cells #[.slice Ao28 t226.length co28,.slice Ao32 t229.length co32] 26 (0,0))) := ⟨h10_⟩
        have n11_ : Aside0 (w48.heap[gb247]? = some (.cells #[.slice none 0 0,.slice none 0 0] 26 (0,0))) := ⟨h11_⟩
        have n12_ : Aside0 (w.heap.size ≤ gb247) := ⟨h12_⟩
        have n13_ : Aside0 (w.heap.size ≤ gb247) := ⟨h13_⟩
        have n14_ : Aside0 (gb216 ≠ gb247) := ⟨h14_⟩
        have n15_ : Aside0 (gb247 ≠ gb216) := ⟨h15_⟩
        have n16_ : Aside0 (gb225 ≠ gb247) := ⟨h16_⟩
        have n17_ : Aside0 (gb247 ≠ gb225) := ⟨h17_⟩
        have n18_ : Aside0 (gb234 ≠ gb247) := ⟨h18_⟩
        have n19_ : Aside0 (gb247 ≠ gb234) := ⟨h19_⟩
        have n20_ : Aside0 (Below w.heap.size w w48) := ⟨h20_⟩
        clear HO_217000 HO_217001 HO_226000 HO_226001 HO_235000 HO_235001 BK216 BK225 BK234 HB h0_ h1_ h2_ h3_ h4_ h5_ h6_ h7_ h8_ h9_ h10_ h11_ h12_ h13_ h14_ h15_ h16_ h17_ h18_ h19_ h20_
        have HO240 := n0_
        have HO243 := n1_
        have HO_217000 := n2_
        have HO_217001 := n3_
        have HO_226000 := n4_
        have HO_226001 := n5_
        have HO_235000 := n6_
        have HO_235001 := n7_
        have BK216 := n8_
        have BK225 := n9_
        have BK234 := n10_
        have BK247 := n11_
        have GW247 := n12_
        have GE247 := n13_
        have NB216_247 := n14_
        have NB247_216 := n15_
        have NB225_247 := n16_
        have NB247_225 := n17_
        have NB234_247 := n18_
        have NB247_234 := n19_
        have HB := n20_
        clear n0_ n1_ n2_ n3_ n4_ n5_ n6_ n7_ n8_ n9_ n10_ n11_ n12_ n13_ n14_ n15_ n16_ n17_ n18_ n19_ n20_
        have hHeld : w48.cell? ⟨gb216,0,none⟩ = some (.slice Ao17 t208.length co17) ∧ w48.cell? ⟨gb216,1,none⟩ = some (.slice Ao19 t211.length co19) ∧ w48.cell? ⟨gb225,0,none⟩ = some (.slice Ao22 t217.length co22) ∧ w48.cell? ⟨gb225,1,none⟩ = some (.slice Ao25 t220.length co25) := hS_
        refine norm_ (a' := ?_) ?_ ?_
        rotate_left
        ·simp only [putAll,Act.put,List.setIfInBounds_toArray,List.set_cons_zero,List.set_cons_succ]
         rfl
        refine one_ (i := 11) (N := some 72) (sqB 15 12287) rfl rfl (one_of HT_.out (by kernel_rfl)) (by decide) (fun K hK => ?_)
        refine Kd.N_append_rows_step k68 (w0 := w) w.heap.size (by rfl) (.tmp 69) (.tmp 71) 24 68 (.agg #[(.string ⟨#[]⟩),(.slice none 0 0),(.int .i64 0)]) 48 rfl Tryz.underlying24 info68 rfl (by decide) (by omega) v242 y241 t220 _ _ _ (fun k_ => nB k_ (.slice Ao17 t208.length co17) ∧ nB k_ (.slice Ao22 t217.length co22) ∧ nB k_ (.slice Ao28 t226.length co28) ∧ nB k_ (.slice Ao32 t229.length co32) ∧ nB k_ (v239) ∧ k_ ≠ gb216 ∧ k_ ≠ gb225 ∧ k_ ≠ gb234 ∧ k_ ≠ gb247) (fun k_ => ((fun k_ => nB k_ (.slice Ao17 t208.length co17) ∧ nB k_ (.slice Ao22 t217.length co22) ∧ nB k_ (.slice Ao28 t226.length co28) ∧ nB k_ (.slice Ao32 t229.length co32) ∧ nB k_ (v239) ∧ k_ ≠ gb216 ∧ k_ ≠ gb225 ∧ k_ ≠ gb234 ∧ k_ ≠ gb247)) k_ ∧ nB k_ (v242)) rfl rfl ?aO ?aR (fun _ hk => hk) ?aF ?aB ?aS ?aL ?_
        (case aR => exact (by skip;exact Kd.N_F (Kd.N_mono (ok' := (fun k_ => ((fun k_ => nB k_ (.slice Ao17 t208.length co17) ∧ nB k_ (.slice Ao22 t217.length co22) ∧ nB k_ (.slice Ao28 t226.length co28) ∧ nB k_ (.slice Ao32 t229.length co32) ∧ nB k_ (v239) ∧ k_ ≠ gb216 ∧ k_ ≠ gb225 ∧ k_ ≠ gb234 ∧ k_ ≠ gb247)) k_ ∧ nB k_ (v242))) (HO_226001.out) (fun k_ hk => ⟨⟨hk.2.2.1,⟨hk.2.2.2.2.1,⟨hk.2.2.2.2.2.1,⟨hk.2.2.2.2.2.2.1,⟨hk.1,⟨hk.2.2.2.2.2.2.2.1,⟨hk.2.2.2.2.2.2.2.2.1,⟨hk.2.2.2.2.2.2.2.2.2.1,hk.2.2.2.2.2.2.2.2.2.2⟩⟩⟩⟩⟩⟩⟩⟩,hk.2.1⟩))))
        (case aB => exact (by repeat (with_reducible first | exact HB.out | apply Y3 | apply Y1 | apply Y2 | refine Y4 ?_ GE216.out | refine Y4 ?_ GE225.out | refine Y4 ?_ GE234.out | refine Y4 ?_ GE247.out)))
        (case aF => exact (fun k_ hk => ⟨Kd.fresh' (Kd.N_lt (by (with_reducible repeat (first | apply Y20));exact HO_217000.out)) k_ hk,Kd.fresh' (Kd.N_lt (by (with_reducible repeat (first | apply Y20));exact HO_226000.out)) k_ hk,Kd.fresh' (Kd.N_lt (by (with_reducible repeat (first | apply Y20));exact HO_235000.out)) k_ hk,Kd.fresh' (Kd.N_lt (by (with_reducible repeat (first | apply Y20));exact HO_235001.out)) k_ hk,Kd.fresh' (Kd.N_lt (by (with_reducible repeat (first | apply Y20));exact HO240.out)) k_ hk,Kd.freshB (g := gb216) (o := .cells #[.slice Ao17 t208.length co17,.slice Ao19 t211.length co19] 26 (0,0)) (by (with_reducible repeat first | apply Y11 | apply Y13 | apply Y12);exact BK216.out) k_ hk,Kd.freshB (g := gb225) (o := .cells #[.slice Ao22 t217.length co22,.slice Ao25 t220.length co25] 26 (0,0)) (by (with_reducible repeat first | apply Y11 | apply Y13 | apply Y12);exact BK225.out) k_ hk,Kd.freshB (g := gb234) (o := .cells #[.slice Ao28 t226.length co28,.slice Ao32 t229.length co32] 26 (0,0)) (by (with_reducible repeat first | apply Y11 | apply Y13 | apply Y12);exact BK234.out) k_ hk,Kd.freshB (g := gb247) (o := .cells #[.slice none 0 0,.slice none 0 0] 26 (0,0)) (by (with_reducible repeat first | apply Y11 | apply Y13 | apply Y12);exact BK247.out) k_ hk⟩))
        (case aO => exact (by (with_reducible repeat (first | apply Y20));exact Kd.N_mono HO243.out (fun _ hk => ⟨hk.2.1,⟨hk.2.2.1,⟨hk.2.2.2.2.1,⟨hk.2.2.2.2.2.1,⟨hk.1,⟨hk.2.2.2.2.2.2.1,⟨hk.2.2.2.2.2.2.2.1,⟨hk.2.2.2.2.2.2.2.2.1,hk.2.2.2.2.2.2.2.2.2⟩⟩⟩⟩⟩⟩⟩⟩)))
        (case aS => exact (below_size (by repeat (with_reducible first | exact HB.out | apply Y3 | apply Y1 | apply Y2 | refine Y4 ?_ GE216.out | refine Y4 ?_ GE225.out | refine Y4 ?_ GE234.out | refine Y4 ?_ GE247.out))))
        (case aL => have := LMc39.out;omega)
        intro v245 w49 ho hb hg hat
        rw [← Ny244.out] at ho
        have n0_ := Y0 (Kd.N_afterv (ok := (fun k_ => nB k_ (.slice Ao19 t211.length co19) ∧ nB k_ (.slice Ao22 t217.length co22) ∧ nB k_ (.slice Ao25 t220.length co25) ∧ nB k_ (.slice Ao28 t226.length co28) ∧ nB k_ (.slice Ao32 t229.length co32) ∧ nB k_ (v239) ∧ k_ ≠ gb216 ∧ k_ ≠ gb225 ∧ k_ ≠ gb234 ∧ k_ ≠ gb247)) (by (with_reducible repeat (first | apply Y20));exact Kd.N_mono HO_217000.out (fun _ hk => ⟨⟨hk.2.2.1,⟨hk.2.2.2.1,⟨hk.2.2.2.2.1,⟨hk.2.2.2.2.2.1,⟨hk.2.2.2.2.2.2.1,⟨hk.1,⟨hk.2.2.2.2.2.2.2.1,⟨hk.2.2.2.2.2.2.2.2.1,⟨hk.2.2.2.2.2.2.2.2.2.1,hk.2.2.2.2.2.2.2.2.2.2⟩⟩⟩⟩⟩⟩⟩⟩⟩,hk.2.1⟩)) hg hat)
        have n1_ := Y0 (Kd.N_afterv (ok := (fun k_ => nB k_ (.slice Ao17 t208.length co17) ∧ nB k_ (.slice Ao22 t217.length co22) ∧ nB k_ (.slice Ao25 t220.length co25) ∧ nB k_ (.slice Ao28 t226.length co28) ∧ nB k_ (.slice Ao32 t229.length co32) ∧ nB k_ (v239) ∧ k_ ≠ gb216 ∧ k_ ≠ gb225 ∧ k_ ≠ gb234 ∧ k_ ≠ gb247)) (by (with_reducible repeat (first | apply Y20));exact Kd.N_mono HO_217001.out (fun _ hk => ⟨⟨hk.2.2.1,⟨hk.2.2.2.1,⟨hk.2.2.2.2.1,⟨hk.2.2.2.2.2.1,⟨hk.2.2.2.2.2.2.1,⟨hk.1,⟨hk.2.2.2.2.2.2.2.1,⟨hk.2.2.2.2.2.2.2.2.1,⟨hk.2.2.2.2.2.2.2.2.2.1,hk.2.2.2.2.2.2.2.2.2.2⟩⟩⟩⟩⟩⟩⟩⟩⟩,hk.2.1⟩)) hg hat)
        have n2_ := Y0 (Kd.N_afterv (ok := (fun k_ => nB k_ (.slice Ao17 t208.length co17) ∧ nB k_ (.slice Ao19 t211.length co19) ∧ nB k_ (.slice Ao25 t220.length co25) ∧ nB k_ (.slice Ao28 t226.length co28) ∧ nB k_ (.slice Ao32 t229.length co32) ∧ nB k_ (v239) ∧ k_ ≠ gb216 ∧ k_ ≠ gb225 ∧ k_ ≠ gb234 ∧ k_ ≠ gb247)) (by (with_reducible repeat (first | apply Y20));exact Kd.N_mono HO_226000.out (fun _ hk => ⟨⟨hk.2.2.1,⟨hk.2.2.2.1,⟨hk.2.2.2.2.1,⟨hk.2.2.2.2.2.1,⟨hk.2.2.2.2.2.2.1,⟨hk.1,⟨hk.2.2.2.2.2.2.2.1,⟨hk.2.2.2.2.2.2.2.2.1,⟨hk.2.2.2.2.2.2.2.2.2.1,hk.2.2.2.2.2.2.2.2.2.2⟩⟩⟩⟩⟩⟩⟩⟩⟩,hk.2.1⟩)) hg hat)
        have n3_ := Y0 (Kd.N_afterv (ok := (fun k_ => nB k_ (.slice Ao17 t208.length co17) ∧ nB k_ (.slice Ao19 t211.length co19) ∧ nB k_ (.slice Ao22 t217.length co22) ∧ nB k_ (.slice Ao28 t226.length co28) ∧ nB k_ (.slice Ao32 t229.length co32) ∧ nB k_ (v239) ∧ k_ ≠ gb216 ∧ k_ ≠ gb225 ∧ k_ ≠ gb234 ∧ k_ ≠ gb247)) (by (with_reducible repeat (first | apply Y20));exact Kd.N_mono HO_226001.out (fun _ hk => ⟨⟨hk.2.2.1,⟨hk.2.2.2.1,⟨hk.2.2.2.2.1,⟨hk.2.2.2.2.2.1,⟨hk.2.2.2.2.2.2.1,⟨hk.1,⟨hk.2.2.2.2.2.2.2.1,⟨hk.2.2.2.2.2.2.2.2.1,⟨hk.2.2.2.2.2.2.2.2.2.1,hk.2.2.2.2.2.2.2.2.2.2⟩⟩⟩⟩⟩⟩⟩⟩⟩,hk.2.1⟩)) hg hat)
        have n4_ := Y0 (Kd.N_afterv (ok := (fun k_ => nB k_ (.slice Ao17 t208.length co17) ∧ nB k_ (.slice Ao19 t211.length co19) ∧ nB k_ (.slice Ao22 t217.length co22) ∧ nB k_ (.slice Ao25 t220.length co25) ∧ nB k_ (.slice Ao32 t229.length co32) ∧ nB k_ (v239) ∧ k_ ≠ gb216 ∧ k_ ≠ gb225 ∧ k_ ≠ gb234 ∧ k_ ≠ gb247)) (by (with_reducible repeat (first | apply Y20));exact Kd.N_mono HO_235000.out (fun _ hk => ⟨⟨hk.2.2.1,⟨hk.2.2.2.1,⟨hk.2.2.2.2.1,⟨hk.2.2.2.2.2.1,⟨hk.2.2.2.2.2.2.1,⟨hk.1,⟨hk.2.2.2.2.2.2.2.1,⟨hk.2.2.2.2.2.2.2.2.1,⟨hk.2.2.2.2.2.2.2.2.2.1,hk.2.2.2.2.2.2.2.2.2.2⟩⟩⟩⟩⟩⟩⟩⟩⟩,hk.2.1⟩)) hg hat)
        have n5_ := Y0 (Kd.N_afterv (ok := (fun k_ => nB k_ (.slice Ao17 t208.length co17) ∧ nB k_ (.slice Ao19 t211.length co19) ∧ nB k_ (.slice Ao22 t217.length co22) ∧ nB k_ (.slice Ao25 t220.length co25) ∧ nB k_ (.slice Ao28 t226.length co28) ∧ nB k_ (v239) ∧ k_ ≠ gb216 ∧ k_ ≠ gb225 ∧ k_ ≠ gb234 ∧ k_ ≠ gb247)) (by (with_reducible repeat (first | apply Y20));exact Kd.N_mono HO_235001.out (fun _ hk => ⟨⟨hk.2.2.1,⟨hk.2.2.2.1,⟨hk.2.2.2.2.1,⟨hk.2.2.2.2.2.1,⟨hk.2.2.2.2.2.2.1,⟨hk.1,⟨hk.2.2.2.2.2.2.2.1,⟨hk.2.2.2.2.2.2.2.2.1,⟨hk.2.2.2.2.2.2.2.2.2.1,hk.2.2.2.2.2.2.2.2.2.2⟩⟩⟩⟩⟩⟩⟩⟩⟩,hk.2.1⟩)) hg hat)
        have n6_ := Y0 (blk_grown (g := gb216) (o := .cells #[.slice Ao17 t208.length co17,.slice Ao19 t211.length co19] 26 (0,0)) (by (with_reducible repeat first | apply Y11 | apply Y13 | apply Y12);exact BK216.out) hg (Kd.N_ne HO243.out BK216.out (by decide)))
        have n7_ := Y0 (blk_grown (g := gb225) (o := .cells #[.slice Ao22 t217.length co22,.slice Ao25 t220.length co25] 26 (0,0)) (by (with_reducible repeat first | apply Y11 | apply Y13 | apply Y12);exact BK225.out) hg (Kd.N_ne HO243.out BK225.out (by decide)))
        have n8_ := Y0 (blk_grown (g := gb234) (o := .cells #[.slice Ao28 t226.length co28,.slice Ao32 t229.length co32] 26 (0,0)) (by (with_reducible repeat first | apply Y11 | apply Y13 | apply Y12);exact BK234.out) hg (Kd.N_ne HO243.out BK234.out (by decide)))
        have n9_ := Y0 (Kd.N_afterv (ok := (fun k_ => nB k_ (.slice Ao19 t211.length co19) ∧ nB k_ (.slice Ao25 t220.length co25) ∧ nB k_ (.slice Ao28 t226.length co28) ∧ nB k_ (.slice Ao32 t229.length co32) ∧ k_ ≠ gb216 ∧ k_ ≠ gb225 ∧ k_ ≠ gb234 ∧ k_ ≠ gb247)) (by (with_reducible repeat (first | apply Y20));exact Kd.N_mono HO240.out (fun _ hk => ⟨⟨hk.2.1,⟨hk.2.2.1,⟨hk.2.2.2.1,⟨hk.2.2.2.2.1,⟨hk.2.2.2.2.2.1,⟨hk.2.2.2.2.2.2.1,⟨hk.2.2.2.2.2.2.2.1,hk.2.2.2.2.2.2.2.2⟩⟩⟩⟩⟩⟩⟩,hk.1⟩)) hg hat)
        have n10_ := Y0 (blk_grown (g := gb247) (o := .cells #[.slice none 0 0,.slice none 0 0] 26 (0,0)) (by (with_reducible repeat first | apply Y11 | apply Y13 | apply Y12);exact BK247.out) hg (Kd.N_ne HO243.out BK247.out (by decide)))
        have n11_ := Y0 (hb)
        have n12_ := Y0 (ho)
        clear HO_217000 HO_217001 HO_226000 HO_226001 HO_235000 HO_235001 BK216 BK225 BK234 HO240 BK247 HB HO243
        have HO_217000 := n0_
        have HO_217001 := n1_
        have HO_226000 := n2_
        have HO_226001 := n3_
        have HO_235000 := n4_
        have HO_235001 := n5_
        have BK216 := n6_
        have BK225 := n7_
        have BK234 := n8_
        have HO240 := n9_
        have BK247 := n10_
        have HB := n11_
        have HO246 := n12_
        clear n0_ n1_ n2_ n3_ n4_ n5_ n6_ n7_ n8_ n9_ n10_ n11_ n12_ ho hb hg hat
        obtain ⟨Ao50,co50,eo50⟩ := Kd.N_slice HO246.out
        (first | subst eo50 | (injection eo50 with f1_ f2_ f3_;have f4_ := f1_.symm;have f5_ := f3_.symm;clear f1_ f2_ f3_;subst f4_;subst f5_))
        obtain ⟨Ao51,co51,eo51⟩ := Kd.N_slice HO240.out
        (first | subst eo51 | (injection eo51 with f1_ f2_ f3_;have f4_ := f1_.symm;have f5_ := f3_.symm;clear f1_ f2_ f3_;subst f4_;subst f5_))
        refine hK.out _ _ ⟨(blk_cell BK216.out 0).trans rfl,(blk_cell BK216.out 1).trans rfl,(blk_cell BK225.out 0).trans rfl,(blk_cell BK225.out 1).trans rfl⟩ (fun hHeld => ?_)
        clear hK K
        refine norm_ (a' := ?_) ?_ ?_
        rotate_left
        ·show Act.put _ (some 72) _ = _
         simp only [Act.put,Y14,Y15,Y16]
         rfl
        refine pure_ (i := 12) (N := some 73) (v := ?_) (a' := ?_) (sqB 15 16383) rfl rfl (any_of HT_.out (by kernel_rfl)) (fun _ _ _ h => h) (Or.inl ⟨by rfl,?_⟩) ?_ ?_
        rotate_left
        ·intro w'
         go_simp
         with_reducible rfl
        rotate_left
        ·simp only [Act.put,Y14,Y15,Y16]
         rfl
        exact norm_ (by first | (simp only [putAll,Act.put,List.setIfInBounds_toArray,List.set_cons_zero,List.set_cons_succ];done) | (simp only [putAll,Act.put,List.setIfInBounds_toArray,List.set_cons_zero,List.set_cons_succ];rfl)) (hJ2_5_8_11_13 (v236,.slice Ao51 y238.length co51,v242,.slice Ao50 y244.length co50,gb247) _ ⟨hHeld,(by (with_reducible repeat (first | apply Y20));exact Kd.N_mono HO240.out (fun _ hk => ⟨hk.2,⟨hk.1.1,⟨hk.1.2.1,⟨hk.1.2.2.1,⟨hk.1.2.2.2.1,⟨hk.1.2.2.2.2.1,⟨hk.1.2.2.2.2.2.1,⟨hk.1.2.2.2.2.2.2.1,hk.1.2.2.2.2.2.2.2⟩⟩⟩⟩⟩⟩⟩⟩)),(by (with_reducible repeat (first | apply Y20));exact Kd.N_mono HO246.out (fun _ hk => ⟨hk.2.2.2.2.1,⟨hk.1,⟨hk.2.1,⟨hk.2.2.1,⟨hk.2.2.2.1,⟨hk.2.2.2.2.2.1,⟨hk.2.2.2.2.2.2.1,⟨hk.2.2.2.2.2.2.2.1,hk.2.2.2.2.2.2.2.2⟩⟩⟩⟩⟩⟩⟩⟩)),(by (with_reducible repeat (first | apply Y20));exact Kd.N_mono HO_217000.out (fun _ hk => ⟨hk.1.2.2.2.2.2.1,⟨hk.2,⟨hk.1.1,⟨hk.1.2.1,⟨hk.1.2.2.1,⟨hk.1.2.2.2.1,⟨hk.1.2.2.2.2.1,⟨hk.1.2.2.2.2.2.2.1,⟨hk.1.2.2.2.2.2.2.2.1,⟨hk.1.2.2.2.2.2.2.2.2.1,hk.1.2.2.2.2.2.2.2.2.2⟩⟩⟩⟩⟩⟩⟩⟩⟩⟩)),(by (with_reducible repeat (first | apply Y20));exact Kd.N_mono HO_217001.out (fun _ hk => ⟨hk.1.2.2.2.2.2.1,⟨hk.2,⟨hk.1.1,⟨hk.1.2.1,⟨hk.1.2.2.1,⟨hk.1.2.2.2.1,⟨hk.1.2.2.2.2.1,⟨hk.1.2.2.2.2.2.2.1,⟨hk.1.2.2.2.2.2.2.2.1,⟨hk.1.2.2.2.2.2.2.2.2.1,hk.1.2.2.2.2.2.2.2.2.2⟩⟩⟩⟩⟩⟩⟩⟩⟩⟩)),(by (with_reducible repeat (first | apply Y20));exact Kd.N_mono HO_226000.out (fun _ hk => ⟨hk.1.2.2.2.2.2.1,⟨hk.2,⟨hk.1.1,⟨hk.1.2.1,⟨hk.1.2.2.1,⟨hk.1.2.2.2.1,⟨hk.1.2.2.2.2.1,⟨hk.1.2.2.2.2.2.2.1,⟨hk.1.2.2.2.2.2.2.2.1,⟨hk.1.2.2.2.2.2.2.2.2.1,hk.1.2.2.2.2.2.2.2.2.2⟩⟩⟩⟩⟩⟩⟩⟩⟩⟩)),(by (with_reducible repeat (first | apply Y20));exact Kd.N_mono HO_226001.out (fun _ hk => ⟨hk.1.2.2.2.2.2.1,⟨hk.2,⟨hk.1.1,⟨hk.1.2.1,⟨hk.1.2.2.1,⟨hk.1.2.2.2.1,⟨hk.1.2.2.2.2.1,⟨hk.1.2.2.2.2.2.2.1,⟨hk.1.2.2.2.2.2.2.2.1,⟨hk.1.2.2.2.2.2.2.2.2.1,hk.1.2.2.2.2.2.2.2.2.2⟩⟩⟩⟩⟩⟩⟩⟩⟩⟩)),(by (with_reducible repeat (first | apply Y20));exact Kd.N_mono HO_235000.out (fun _ hk => ⟨hk.1.2.2.2.2.2.1,⟨hk.2,⟨hk.1.1,⟨hk.1.2.1,⟨hk.1.2.2.1,⟨hk.1.2.2.2.1,⟨hk.1.2.2.2.2.1,⟨hk.1.2.2.2.2.2.2.1,⟨hk.1.2.2.2.2.2.2.2.1,⟨hk.1.2.2.2.2.2.2.2.2.1,hk.1.2.2.2.2.2.2.2.2.2⟩⟩⟩⟩⟩⟩⟩⟩⟩⟩)),(by (with_reducible repeat (first | apply Y20));exact Kd.N_mono HO_235001.out (fun _ hk => ⟨hk.1.2.2.2.2.2.1,⟨hk.2,⟨hk.1.1,⟨hk.1.2.1,⟨hk.1.2.2.1,⟨hk.1.2.2.2.1,⟨hk.1.2.2.2.2.1,⟨hk.1.2.2.2.2.2.2.1,⟨hk.1.2.2.2.2.2.2.2.1,⟨hk.1.2.2.2.2.2.2.2.2.1,hk.1.2.2.2.2.2.2.2.2.2⟩⟩⟩⟩⟩⟩⟩⟩⟩⟩)),(by (with_reducible repeat first | apply Y11 | apply Y13 | apply Y12);exact BK216.out),(by (with_reducible repeat first | apply Y11 | apply Y13 | apply Y12);exact BK225.out),(by (with_reducible repeat first | apply Y11 | apply Y13 | apply Y12);exact BK234.out),(by (with_reducible repeat first | apply Y11 | apply Y13 | apply Y12);exact BK247.out),GW247.out,GE247.out,NB216_247.out,NB247_216.out,NB225_247.out,NB247_225.out,NB234_247.out,NB247_234.out,(by repeat (with_reducible first | exact HB.out | apply Y3 | apply Y1 | apply Y2 | refine Y4 ?_ GE216.out | refine Y4 ?_ GE225.out | refine Y4 ?_ GE234.out | refine Y4 ?_ GE247.out))⟩)
      ·skip
       rintro ⟨v236,v239,v242,v245⟩ w50 ⟨hS_,h0_,h1_,h2_,h3_,h4_,h5_,h6_,h7_,h8_,h9_,h10_,h11_⟩
       have n0_ : Aside0 (Kd.N k34 34 w50 w.heap.size (fun k_ => nB k_ (v245) ∧ nB k_ (.slice Ao19 t211.length co19) ∧ nB k_ (.slice Ao25 t220.length co25) ∧ nB k_ (.slice Ao28 t226.length co28) ∧ nB k_ (.slice Ao32 t229.length co32) ∧ k_ ≠ gb216 ∧ k_ ≠ gb225 ∧ k_ ≠ gb234) v239 y238) := ⟨h0_⟩
       have n1_ : Aside0 (Kd.N k68 68 w50 w.heap.size (fun k_ => nB k_ (v239) ∧ nB k_ (.slice Ao17 t208.length co17) ∧ nB k_ (.slice Ao22 t217.length co22) ∧ nB k_ (.slice Ao28 t226.length co28) ∧ nB k_ (.slice Ao32 t229.length co32) ∧ k_ ≠ gb216 ∧ k_ ≠ gb225 ∧ k_ ≠ gb234) v245 y244) := ⟨h1_⟩
       have n2_ : Aside0 (Kd.N k34 34 w50 w.heap.size (fun k_ => nB k_ (v239) ∧ nB k_ (v245) ∧ nB k_ (.slice Ao19 t211.length co19) ∧ nB k_ (.slice Ao22 t217.length co22) ∧ nB k_ (.slice Ao25 t220.length co25) ∧ nB k_ (.slice Ao28 t226.length co28) ∧ nB k_ (.slice Ao32 t229.length co32) ∧ k_ ≠ gb216 ∧ k_ ≠ gb225 ∧ k_ ≠ gb234) (.slice Ao17 t208.length co17) t208) := ⟨h2_⟩
       have n3_ : Aside0 (Kd.N k68 68 w50 w.heap.size (fun k_ => nB k_ (v239) ∧ nB k_ (v245) ∧ nB k_ (.slice Ao17 t208.length co17) ∧ nB k_ (.slice Ao22 t217.length co22) ∧ nB k_ (.slice Ao25 t220.length co25) ∧ nB k_ (.slice Ao28 t226.length co28) ∧ nB k_ (.slice Ao32 t229.length co32) ∧ k_ ≠ gb216 ∧ k_ ≠ gb225 ∧ k_ ≠ gb234) (.slice Ao19 t211.length co19) t211) := ⟨h3_⟩
       have n4_ : Aside0 (Kd.N k34 34 w50 w.heap.size (fun k_ => nB k_ (v239) ∧ nB k_ (v245) ∧ nB k_ (.slice Ao17 t208.length co17) ∧ nB k_ (.slice Ao19 t211.length co19) ∧ nB k_ (.slice Ao25 t220.length co25) ∧ nB k_ (.slice Ao28 t226.length co28) ∧ nB k_ (.slice Ao32 t229.length co32) ∧ k_ ≠ gb216 ∧ k_ ≠ gb225 ∧ k_ ≠ gb234) (.slice Ao22 t217.length co22) t217) := ⟨h4_⟩
       have n5_ : Aside0 (Kd.N k68 68 w50 w.heap.size (fun k_ => nB k_ (v239) ∧ nB k_ (v245) ∧ nB k_ (.slice Ao17 t208.length co17) ∧ nB k_ (.slice Ao19 t211.length co19) ∧ nB k_ (.slice Ao22 t217.length co22) ∧ nB k_ (.slice Ao28 t226.length co28) ∧ nB k_ (.slice Ao32 t229.length co32) ∧ k_ ≠ gb216 ∧ k_ ≠ gb225 ∧ k_ ≠ gb234) (.slice Ao25 t220.length co25) t220) := ⟨h5_⟩
       have n6_ : Aside0 (Kd.N k34 34 w50 w.heap.size (fun k_ => nB k_ (v239) ∧ nB k_ (v245) ∧ nB k_ (.slice Ao17 t208.length co17) ∧ nB k_ (.slice Ao19 t211.length co19) ∧ nB k_ (.slice Ao22 t217.length co22) ∧ nB k_ (.slice Ao25 t220.length co25) ∧ nB k_ (.slice Ao32 t229.length co32) ∧ k_ ≠ gb216 ∧ k_ ≠ gb225 ∧ k_ ≠ gb234) (.slice Ao28 t226.length co28) t226) := ⟨h6_⟩
       have n7_ : Aside0 (Kd.N k68 68 w50 w.heap.size (fun k_ => nB k_ (v239) ∧ nB k_ (v245) ∧ nB k_ (.slice Ao17 t208.length co17) ∧ nB k_ (.slice Ao19 t211.length co19) ∧ nB k_ (.slice Ao22 t217.length co22) ∧ nB k_ (.slice Ao25 t220.length co25) ∧ nB k_ (.slice Ao28 t226.length co28) ∧ k_ ≠ gb216 ∧ k_ ≠ gb225 ∧ k_ ≠ gb234) (.slice Ao32 t229.length co32) t229) := ⟨h7_⟩
       have n8_ : Aside0 (w50.heap[gb216]? = some (.cells #[.slice Ao17 t208.length co17,.slice Ao19 t211.length co19] 26 (0,0))) := ⟨h8_⟩
       have n9_ : Aside0 (w50.heap[gb225]? = some (.cells #[.slice Ao22 t217.length co22,.slice Ao25 t220.length co25] 26 (0,0))) := ⟨h9_⟩
       have n10_ : Aside0 (w50.heap[gb234]? = some (.cells #[.slice Ao28 t226.length co28,.slice Ao32 t229.length co32] 26 (0,0))) := ⟨h10_⟩
       have n11_ : Aside0 (Below w.heap.size w w50) := ⟨h11_⟩
       clear HO_217000 HO_217001 HO_226000 HO_226001 HO_235000 HO_235001 BK216 BK225 BK234 HB h0_ h1_ h2_ h3_ h4_ h5_ h6_ h7_ h8_ h9_ h10_ h11_
       have HO240 := n0_
       have HO246 := n1_
       have HO_217000 := n2_
       have HO_217001 := n3_
       have HO_226000 := n4_
       have HO_226001 := n5_
       have HO_235000 := n6_
       have HO_235001 := n7_
       have BK216 := n8_
       have BK225 := n9_
       have BK234 := n10_
       have HB := n11_
       clear n0_ n1_ n2_ n3_ n4_ n5_ n6_ n7_ n8_ n9_ n10_ n11_
       have hHeld : w50.cell? ⟨gb216,0,none⟩ = some (.slice Ao17 t208.length co17) ∧ w50.cell? ⟨gb216,1,none⟩ = some (.slice Ao19 t211.length co19) ∧ w50.cell? ⟨gb225,0,none⟩ = some (.slice Ao22 t217.length co22) ∧ w50.cell? ⟨gb225,1,none⟩ = some (.slice Ao25 t220.length co25) := hS_
       obtain ⟨Ao51,co51,eo51⟩ := Kd.N_slice HO246.out
       (first | subst eo51 | (injection eo51 with f1_ f2_ f3_;have f4_ := f1_.symm;have f5_ := f3_.symm;clear f1_ f2_ f3_;subst f4_;subst f5_))
       obtain ⟨Ao52,co52,eo52⟩ := Kd.N_slice HO240.out
       (first | subst eo52 | (injection eo52 with f1_ f2_ f3_;have f4_ := f1_.symm;have f5_ := f3_.symm;clear f1_ f2_ f3_;subst f4_;subst f5_))
       refine norm_ (a' := ?_) ?_ ?_
       rotate_left
       ·simp only [putAll,Act.put,List.setIfInBounds_toArray,List.set_cons_zero,List.set_cons_succ]
        rfl
       refine one_ (i := 13) (N := some 15) (sqB 15 16383) rfl rfl (one_of HT_.out (by kernel_rfl)) (by decide) (fun K hK => ?_)
       refine box_step ?hg (N := 15) ?hd (cs := #[.slice none 0 0,.slice none 0 0]) (t := 26) ?hr ?_;(case hd => rfl);(case hg => rfl);(case hr => first | (go_simp;done) | (go_simp;rfl))
       intro gb247 hg w53 hbox hb
       have n0_ := Y0 (Kd.N_below (Kd.N_elderB (by (with_reducible repeat (first | apply Y20));exact HO_217000.out) gb247 (Nat.le_of_eq hg.symm)) hb)
       have n1_ := Y0 (Kd.N_below (Kd.N_elderB (by (with_reducible repeat (first | apply Y20));exact HO_217001.out) gb247 (Nat.le_of_eq hg.symm)) hb)
       have n2_ := Y0 (Kd.N_below (Kd.N_elderB (by (with_reducible repeat (first | apply Y20));exact HO_226000.out) gb247 (Nat.le_of_eq hg.symm)) hb)
       have n3_ := Y0 (Kd.N_below (Kd.N_elderB (by (with_reducible repeat (first | apply Y20));exact HO_226001.out) gb247 (Nat.le_of_eq hg.symm)) hb)
       have n4_ := Y0 (Kd.N_below (Kd.N_elderB (by (with_reducible repeat (first | apply Y20));exact HO_235000.out) gb247 (Nat.le_of_eq hg.symm)) hb)
       have n5_ := Y0 (Kd.N_below (Kd.N_elderB (by (with_reducible repeat (first | apply Y20));exact HO_235001.out) gb247 (Nat.le_of_eq hg.symm)) hb)
       have n6_ := Y0 (Kd.N_below (Kd.N_elderB (by (with_reducible repeat (first | apply Y20));exact HO240.out) gb247 (Nat.le_of_eq hg.symm)) hb)
       have n7_ := Y0 (Kd.N_below (Kd.N_elderB (by (with_reducible repeat (first | apply Y20));exact HO246.out) gb247 (Nat.le_of_eq hg.symm)) hb)
       have n8_ := Y0 (blk_below (g := gb216) (o := .cells #[.slice Ao17 t208.length co17,.slice Ao19 t211.length co19] 26 (0,0)) (by (with_reducible repeat first | apply Y11 | apply Y13 | apply Y12);exact BK216.out) hb)
       have n9_ := Y0 (blk_below (g := gb225) (o := .cells #[.slice Ao22 t217.length co22,.slice Ao25 t220.length co25] 26 (0,0)) (by (with_reducible repeat first | apply Y11 | apply Y13 | apply Y12);exact BK225.out) hb)
       have n10_ := Y0 (blk_below (g := gb234) (o := .cells #[.slice Ao28 t226.length co28,.slice Ao32 t229.length co32] 26 (0,0)) (by (with_reducible repeat first | apply Y11 | apply Y13 | apply Y12);exact BK234.out) hb)
       have n11_ := Y0 (below_step (by repeat (with_reducible first | exact HB.out | apply Y3 | apply Y1 | apply Y2 | refine Y4 ?_ GE216.out | refine Y4 ?_ GE225.out | refine Y4 ?_ GE234.out)) hb)
       have n12_ := Y0 (hbox)
       have n13_ := Y0 ((by rw [hg];exact (below_size (by repeat (with_reducible first | exact HB.out | apply Y3 | apply Y1 | apply Y2 | refine Y4 ?_ GE216.out | refine Y4 ?_ GE225.out | refine Y4 ?_ GE234.out))) : w.heap.size ≤ gb247))
       have n14_ := Y0 ((by rw [hg];exact (below_size (by repeat (with_reducible first | exact HB.out | apply Y3 | apply Y1 | apply Y2 | refine Y4 ?_ GE216.out | refine Y4 ?_ GE225.out | refine Y4 ?_ GE234.out))) : w.heap.size ≤ gb247))
       have n15_ := Y0 ((by rw [hg];exact Nat.ne_of_lt (blk_lt (g := gb216) (o := .cells #[.slice Ao17 t208.length co17,.slice Ao19 t211.length co19] 26 (0,0)) (by (with_reducible repeat first | apply Y11 | apply Y13 | apply Y12);exact BK216.out)) : gb216 ≠ gb247))
       have n16_ := Y0 ((by rw [hg];exact Nat.ne_of_gt (blk_lt (g := gb216) (o := .cells #[.slice Ao17 t208.length co17,.slice Ao19 t211.length co19] 26 (0,0)) (by (with_reducible repeat first | apply Y11 | apply Y13 | apply Y12);exact BK216.out)) : gb247 ≠ gb216))
       have n17_ := Y0 ((by rw [hg];exact Nat.ne_of_lt (blk_lt (g := gb225) (o := .cells #[.slice Ao22 t217.length co22,.slice Ao25 t220.length co25] 26 (0,0)) (by (with_reducible repeat first | apply Y11 | apply Y13 | apply Y12);exact BK225.out)) : gb225 ≠ gb247))
       have n18_ := Y0 ((by rw [hg];exact Nat.ne_of_gt (blk_lt (g := gb225) (o := .cells #[.slice Ao22 t217.length co22,.slice Ao25 t220.length co25] 26 (0,0)) (by (with_reducible repeat first | apply Y11 | apply Y13 | apply Y12);exact BK225.out)) : gb247 ≠ gb225))
       have n19_ := Y0 ((by rw [hg];exact Nat.ne_of_lt (blk_lt (g := gb234) (o := .cells #[.slice Ao28 t226.length co28,.slice Ao32 t229.length co32] 26 (0,0)) (by (with_reducible repeat first | apply Y11 | apply Y13 | apply Y12);exact BK234.out)) : gb234 ≠ gb247))
       have n20_ := Y0 ((by rw [hg];exact Nat.ne_of_gt (blk_lt (g := gb234) (o := .cells #[.slice Ao28 t226.length co28,.slice Ao32 t229.length co32] 26 (0,0)) (by (with_reducible repeat first | apply Y11 | apply Y13 | apply Y12);exact BK234.out)) : gb247 ≠ gb234))
       clear HO_217000 HO_217001 HO_226000 HO_226001 HO_235000 HO_235001 HO240 HO246 BK216 BK225 BK234 HB
       have HO_217000 := n0_
       have HO_217001 := n1_
       have HO_226000 := n2_
       have HO_226001 := n3_
       have HO_235000 := n4_
       have HO_235001 := n5_
       have HO240 := n6_
       have HO246 := n7_
       have BK216 := n8_
       have BK225 := n9_
       have BK234 := n10_
       have HB := n11_
       have BK247 := n12_
       have GW247 := n13_
       have GE247 := n14_
       have NB216_247 := n15_
       have NB247_216 := n16_
       have NB225_247 := n17_
       have NB247_225 := n18_
       have NB234_247 := n19_
       have NB247_234 := n20_
       clear n0_ n1_ n2_ n3_ n4_ n5_ n6_ n7_ n8_ n9_ n10_ n11_ n12_ n13_ n14_ n15_ n16_ n17_ n18_ n19_ n20_ hb hbox hg
       refine hK.out _ _ ⟨(blk_cell BK216.out 0).trans rfl,(blk_cell BK216.out 1).trans rfl,(blk_cell BK225.out 0).trans rfl,(blk_cell BK225.out 1).trans rfl⟩ (fun hHeld => ?_)
       clear hK K
       refine norm_ (a' := ?_) ?_ ?_
       rotate_left
       ·show Act.put _ (some 15) _ = _
        simp only [Act.put,Y14,Y15,Y16]
        rfl
       exact norm_ (by first | (simp only [putAll,Act.put,List.setIfInBounds_toArray,List.set_cons_zero,List.set_cons_succ];done) | (simp only [putAll,Act.put,List.setIfInBounds_toArray,List.set_cons_zero,List.set_cons_succ];rfl)) (hJ2_5_8_11_13 (v236,.slice Ao52 y238.length co52,v242,.slice Ao51 y244.length co51,gb247) _ ⟨hHeld,(by (with_reducible repeat (first | apply Y20));exact Kd.N_mono HO240.out (fun _ hk => ⟨hk.1.1,⟨hk.1.2.1,⟨hk.1.2.2.1,⟨hk.1.2.2.2.1,⟨hk.1.2.2.2.2.1,⟨hk.1.2.2.2.2.2.1,⟨hk.1.2.2.2.2.2.2.1,⟨hk.1.2.2.2.2.2.2.2,hk.2⟩⟩⟩⟩⟩⟩⟩⟩)),(by (with_reducible repeat (first | apply Y20));exact Kd.N_mono HO246.out (fun _ hk => ⟨hk.1.1,⟨hk.1.2.1,⟨hk.1.2.2.1,⟨hk.1.2.2.2.1,⟨hk.1.2.2.2.2.1,⟨hk.1.2.2.2.2.2.1,⟨hk.1.2.2.2.2.2.2.1,⟨hk.1.2.2.2.2.2.2.2,hk.2⟩⟩⟩⟩⟩⟩⟩⟩)),(by (with_reducible repeat (first | apply Y20));exact Kd.N_mono HO_217000.out (fun _ hk => ⟨hk.1.1,⟨hk.1.2.1,⟨hk.1.2.2.1,⟨hk.1.2.2.2.1,⟨hk.1.2.2.2.2.1,⟨hk.1.2.2.2.2.2.1,⟨hk.1.2.2.2.2.2.2.1,⟨hk.1.2.2.2.2.2.2.2.1,⟨hk.1.2.2.2.2.2.2.2.2.1,⟨hk.1.2.2.2.2.2.2.2.2.2,hk.2⟩⟩⟩⟩⟩⟩⟩⟩⟩⟩)),(by (with_reducible repeat (first | apply Y20));exact Kd.N_mono HO_217001.out (fun _ hk => ⟨hk.1.1,⟨hk.1.2.1,⟨hk.1.2.2.1,⟨hk.1.2.2.2.1,⟨hk.1.2.2.2.2.1,⟨hk.1.2.2.2.2.2.1,⟨hk.1.2.2.2.2.2.2.1,⟨hk.1.2.2.2.2.2.2.2.1,⟨hk.1.2.2.2.2.2.2.2.2.1,⟨hk.1.2.2.2.2.2.2.2.2.2,hk.2⟩⟩⟩⟩⟩⟩⟩⟩⟩⟩)),(by (with_reducible repeat (first | apply Y20));exact Kd.N_mono HO_226000.out (fun _ hk => ⟨hk.1.1,⟨hk.1.2.1,⟨hk.1.2.2.1,⟨hk.1.2.2.2.1,⟨hk.1.2.2.2.2.1,⟨hk.1.2.2.2.2.2.1,⟨hk.1.2.2.2.2.2.2.1,⟨hk.1.2.2.2.2.2.2.2.1,⟨hk.1.2.2.2.2.2.2.2.2.1,⟨hk.1.2.2.2.2.2.2.2.2.2,hk.2⟩⟩⟩⟩⟩⟩⟩⟩⟩⟩)),(by (with_reducible repeat (first | apply Y20));exact Kd.N_mono HO_226001.out (fun _ hk => ⟨hk.1.1,⟨hk.1.2.1,⟨hk.1.2.2.1,⟨hk.1.2.2.2.1,⟨hk.1.2.2.2.2.1,⟨hk.1.2.2.2.2.2.1,⟨hk.1.2.2.2.2.2.2.1,⟨hk.1.2.2.2.2.2.2.2.1,⟨hk.1.2.2.2.2.2.2.2.2.1,⟨hk.1.2.2.2.2.2.2.2.2.2,hk.2⟩⟩⟩⟩⟩⟩⟩⟩⟩⟩)),(by (with_reducible repeat (first | apply Y20));exact Kd.N_mono HO_235000.out (fun _ hk => ⟨hk.1.1,⟨hk.1.2.1,⟨hk.1.2.2.1,⟨hk.1.2.2.2.1,⟨hk.1.2.2.2.2.1,⟨hk.1.2.2.2.2.2.1,⟨hk.1.2.2.2.2.2.2.1,⟨hk.1.2.2.2.2.2.2.2.1,⟨hk.1.2.2.2.2.2.2.2.2.1,⟨hk.1.2.2.2.2.2.2.2.2.2,hk.2⟩⟩⟩⟩⟩⟩⟩⟩⟩⟩)),(by (with_reducible repeat (first | apply Y20));exact Kd.N_mono HO_235001.out (fun _ hk => ⟨hk.1.1,⟨hk.1.2.1,⟨hk.1.2.2.1,⟨hk.1.2.2.2.1,⟨hk.1.2.2.2.2.1,⟨hk.1.2.2.2.2.2.1,⟨hk.1.2.2.2.2.2.2.1,⟨hk.1.2.2.2.2.2.2.2.1,⟨hk.1.2.2.2.2.2.2.2.2.1,⟨hk.1.2.2.2.2.2.2.2.2.2,hk.2⟩⟩⟩⟩⟩⟩⟩⟩⟩⟩)),(by (with_reducible repeat first | apply Y11 | apply Y13 | apply Y12);exact BK216.out),(by (with_reducible repeat first | apply Y11 | apply Y13 | apply Y12);exact BK225.out),(by (with_reducible repeat first | apply Y11 | apply Y13 | apply Y12);exact BK234.out),(by (with_reducible repeat first | apply Y11 | apply Y13 | apply Y12);exact BK247.out),GW247.out,GE247.out,NB216_247.out,NB247_216.out,NB225_247.out,NB247_225.out,NB234_247.out,NB247_234.out,(by repeat (with_reducible first | exact HB.out | apply Y3 | apply Y1 | apply Y2 | refine Y4 ?_ GE216.out | refine Y4 ?_ GE225.out | refine Y4 ?_ GE234.out | refine Y4 ?_ GE247.out))⟩)
     rintro ⟨v236,v239,v242,v245,gb247⟩ w51 ⟨hS_,h0_,h1_,h2_,h3_,h4_,h5_,h6_,h7_,h8_,h9_,h10_,h11_,h12_,h13_,h14_,h15_,h16_,h17_,h18_,h19_,h20_⟩
     have n0_ : Aside0 (Kd.N k34 34 w51 w.heap.size (fun k_ => nB k_ (v245) ∧ nB k_ (.slice Ao19 t211.length co19) ∧ nB k_ (.slice Ao25 t220.length co25) ∧ nB k_ (.slice Ao28 t226.length co28) ∧ nB k_ (.slice Ao32 t229.length co32) ∧ k_ ≠ gb216 ∧ k_ ≠ gb225 ∧ k_ ≠ gb234 ∧ k_ ≠ gb247) v239 y238) := ⟨h0_⟩
     have n1_ : Aside0 (Kd.N k68 68 w51 w.heap.size (fun k_ => nB k_ (v239) ∧ nB k_ (.slice Ao17 t208.length co17) ∧ nB k_ (.slice Ao22 t217.length co22) ∧ nB k_ (.slice Ao28 t226.length co28) ∧ nB k_ (.slice Ao32 t229.length co32) ∧ k_ ≠ gb216 ∧ k_ ≠ gb225 ∧ k_ ≠ gb234 ∧ k_ ≠ gb247) v245 y244) := ⟨h1_⟩
     have n2_ : Aside0 (Kd.N k34 34 w51 w.heap.size (fun k_ => nB k_ (v239) ∧ nB k_ (v245) ∧ nB k_ (.slice Ao19 t211.length co19) ∧ nB k_ (.slice Ao22 t217.length co22) ∧ nB k_ (.slice Ao25 t220.length co25) ∧ nB k_ (.slice Ao28 t226.length co28) ∧ nB k_ (.slice Ao32 t229.length co32) ∧ k_ ≠ gb216 ∧ k_ ≠ gb225 ∧ k_ ≠ gb234 ∧ k_ ≠ gb247) (.slice Ao17 t208.length co17) t208) := ⟨h2_⟩
     have n3_ : Aside0 (Kd.N k68 68 w51 w.heap.size (fun k_ => nB k_ (v239) ∧ nB k_ (v245) ∧ nB k_ (.slice Ao17 t208.length co17) ∧ nB k_ (.slice Ao22 t217.length co22) ∧ nB k_ (.slice Ao25 t220.length co25) ∧ nB k_ (.slice Ao28 t226.length co28) ∧ nB k_ (.slice Ao32 t229.length co32) ∧ k_ ≠ gb216 ∧ k_ ≠ gb225 ∧ k_ ≠ gb234 ∧ k_ ≠ gb247) (.slice Ao19 t211.length co19) t211) := ⟨h3_⟩
     have n4_ : Aside0 (Kd.N k34 34 w51 w.heap.size (fun k_ => nB k_ (v239) ∧ nB k_ (v245) ∧ nB k_ (.slice Ao17 t208.length co17) ∧ nB k_ (.slice Ao19 t211.length co19) ∧ nB k_ (.slice Ao25 t220.length co25) ∧ nB k_ (.slice Ao28 t226.length co28) ∧ nB k_ (.slice Ao32 t229.length co32) ∧ k_ ≠ gb216 ∧ k_ ≠ gb225 ∧ k_ ≠ gb234 ∧ k_ ≠ gb247) (.slice Ao22 t217.length co22) t217) := ⟨h4_⟩
     have n5_ : Aside0 (Kd.N k68 68 w51 w.heap.size (fun k_ => nB k_ (v239) ∧ nB k_ (v245) ∧ nB k_ (.slice Ao17 t208.length co17) ∧ nB k_ (.slice Ao19 t211.length co19) ∧ nB k_ (.slice Ao22 t217.length co22) ∧ nB k_ (.slice Ao28 t226.length co28) ∧ nB k_ (.slice Ao32 t229.length co32) ∧ k_ ≠ gb216 ∧ k_ ≠ gb225 ∧ k_ ≠ gb234 ∧ k_ ≠ gb247) (.slice Ao25 t220.length co25) t220) := ⟨h5_⟩
     have n6_ : Aside0 (Kd.N k34 34 w51 w.heap.size (fun k_ => nB k_ (v239) ∧ nB k_ (v245) ∧ nB k_ (.slice Ao17 t208.length co17) ∧ nB k_ (.slice Ao19 t211.length co19) ∧ nB k_ (.slice Ao22 t217.length co22) ∧ nB k_ (.slice Ao25 t220.length co25) ∧ nB k_ (.slice Ao32 t229.length co32) ∧ k_ ≠ gb216 ∧ k_ ≠ gb225 ∧ k_ ≠ gb234 ∧ k_ ≠ gb247) (.slice Ao28 t226.length co28) t226) := ⟨h6_⟩
     have n7_ : Aside0 (Kd.N k68 68 w51 w.heap.size (fun k_ => nB k_ (v239) ∧ nB k_ (v245) ∧ nB k_ (.slice Ao17 t208.length co17) ∧ nB k_ (.slice Ao19 t211.length co19) ∧ nB k_ (.slice Ao22 t217.length co22) ∧ nB k_ (.slice Ao25 t220.length co25) ∧ nB k_ (.slice Ao28 t226.length co28) ∧ k_ ≠ gb216 ∧ k_ ≠ gb225 ∧ k_ ≠ gb234 ∧ k_ ≠ gb247) (.slice Ao32 t229.length co32) t229) := ⟨h7_⟩
     have n8_ : Aside0 (w51.heap[gb216]? = some (.cells #[.slice Ao17 t208.length co17,.slice Ao19 t211.length co19] 26 (0,0))) := ⟨h8_⟩
     have n9_ : Aside0 (w51.heap[gb225]? = some (.cells #[.slice Ao22 t217.length co22,.slice Ao25 t220.length co25] 26 (0,0))) := ⟨h9_⟩
     have n10_ : Aside0 (w51.heap[gb234]? = some (.cells #[.slice Ao28 t226.length co28,.slice Ao32 t229.length co32] 26 (0,0))) := ⟨h10_⟩
     have n11_ : Aside0 (w51.heap[gb247]? = some (.cells #[.slice none 0 0,.slice none 0 0] 26 (0,0))) := ⟨h11_⟩
     have n12_ : Aside0 (w.heap.size ≤ gb247) := ⟨h12_⟩
     have n13_ : Aside0 (w.heap.size ≤ gb247) := ⟨h13_⟩
     have n14_ : Aside0 (gb216 ≠ gb247) := ⟨h14_⟩
     have n15_ : Aside0 (gb247 ≠ gb216) := ⟨h15_⟩
     have n16_ : Aside0 (gb225 ≠ gb247) := ⟨h16_⟩
     have n17_ : Aside0 (gb247 ≠ gb225) := ⟨h17_⟩
     have n18_ : Aside0 (gb234 ≠ gb247) := ⟨h18_⟩
     have n19_ : Aside0 (gb247 ≠ gb234) := ⟨h19_⟩
     have n20_ : Aside0 (Below w.heap.size w w51) := ⟨h20_⟩
     clear HO_217000 HO_217001 HO_226000 HO_226001 HO_235000 HO_235001 BK216 BK225 BK234 HB h0_ h1_ h2_ h3_ h4_ h5_ h6_ h7_ h8_ h9_ h10_ h11_ h12_ h13_ h14_ h15_ h16_ h17_ h18_ h19_ h20_
     have HO240 := n0_
     have HO246 := n1_
     have HO_217000 := n2_
     have HO_217001 := n3_
     have HO_226000 := n4_
     have HO_226001 := n5_
     have HO_235000 := n6_
     have HO_235001 := n7_
     have BK216 := n8_
     have BK225 := n9_
     have BK234 := n10_
     have BK247 := n11_
     have GW247 := n12_
     have GE247 := n13_
     have NB216_247 := n14_
     have NB247_216 := n15_
     have NB225_247 := n16_
     have NB247_225 := n17_
     have NB234_247 := n18_
     have NB247_234 := n19_
     have HB := n20_
     clear n0_ n1_ n2_ n3_ n4_ n5_ n6_ n7_ n8_ n9_ n10_ n11_ n12_ n13_ n14_ n15_ n16_ n17_ n18_ n19_ n20_
     have hHeld : w51.cell? ⟨gb216,0,none⟩ = some (.slice Ao17 t208.length co17) ∧ w51.cell? ⟨gb216,1,none⟩ = some (.slice Ao19 t211.length co19) ∧ w51.cell? ⟨gb225,0,none⟩ = some (.slice Ao22 t217.length co22) ∧ w51.cell? ⟨gb225,1,none⟩ = some (.slice Ao25 t220.length co25) := hS_
     obtain ⟨Ao52,co52,eo52⟩ := Kd.N_slice HO246.out
     (first | subst eo52 | (injection eo52 with f1_ f2_ f3_;have f4_ := f1_.symm;have f5_ := f3_.symm;clear f1_ f2_ f3_;subst f4_;subst f5_))
     obtain ⟨Ao53,co53,eo53⟩ := Kd.N_slice HO240.out
     (first | subst eo53 | (injection eo53 with f1_ f2_ f3_;have f4_ := f1_.symm;have f5_ := f3_.symm;clear f1_ f2_ f3_;subst f4_;subst f5_))
     refine norm_ (a' := ?_) ?_ ?_
     rotate_left
     ·simp only [putAll,Act.put,List.setIfInBounds_toArray,List.set_cons_zero,List.set_cons_succ]
      rfl
     refine one_ (i := 14) (N := none) (sqB 15 32767) rfl rfl (one_of HT_.out (by kernel_rfl)) (by decide) (fun K hK => ?_)
     have hs54 : w51.cell? ⟨gb247,0,none⟩ = some (.slice none 0 0) := (blk_cell BK247.out 0).trans rfl
     have hfs54 := blk_frozen BK247.out 0
     have hns54_0 := NB216_247.out
     have hns54_1 := NB225_247.out
     have hns54_2 := NB234_247.out
     have hms54_0 := NB247_216.out
     have hms54_1 := NB247_225.out
     have hms54_2 := NB247_234.out
     have hs55 : w51.cell? ⟨gb247,1,none⟩ = some (.slice none 0 0) := (blk_cell BK247.out 1).trans rfl
     have hfs55 := blk_frozen BK247.out 1
     have hns55_0 := NB216_247.out
     have hns55_1 := NB225_247.out
     have hns55_2 := NB234_247.out
     have hms55_0 := NB247_216.out
     have hms55_1 := NB247_225.out
     have hms55_2 := NB247_234.out
     refine skip_ (w1 := ?_) (by rfl) rfl ?_ ?_
     rotate_left
     ·go_simp
      rfl
     refine hK.out _ _ ⟨((cell_far (p := ⟨gb247,_,none⟩) NB216_247.out _).trans (((cell_far (p := ⟨gb247,_,none⟩) NB216_247.out _).trans (hHeld.1)))),((cell_far (p := ⟨gb247,_,none⟩) NB216_247.out _).trans (((cell_far (p := ⟨gb247,_,none⟩) NB216_247.out _).trans (hHeld.2.1)))),((cell_far (p := ⟨gb247,_,none⟩) NB225_247.out _).trans (((cell_far (p := ⟨gb247,_,none⟩) NB225_247.out _).trans (hHeld.2.2.1)))),((cell_far (p := ⟨gb247,_,none⟩) NB225_247.out _).trans (((cell_far (p := ⟨gb247,_,none⟩) NB225_247.out _).trans (hHeld.2.2.2))))⟩ (fun hHeld => ?_)
     clear hK K
     refine done_ (done_of HT_.out (by kernel_rfl)) ?_
     have hnb56 := NB234_216.out
     have hnc56 := NB216_234.out
     have hnb57 := NB234_225.out
     have hnc57 := NB225_234.out
     have hnb58 := NB234_247.out
     have hnc58 := NB247_234.out
     have ⟨hcz59_0,hcz59_1,hfz59_0,hfz59_1⟩ := sq_box2 BK234.out
     have hnb60 := NB247_216.out
     have hnc60 := NB216_247.out
     have hnb61 := NB247_225.out
     have hnc61 := NB225_247.out
     have ⟨hcz62_0,hcz62_1,hfz62_0,hfz62_1⟩ := sq_box2 BK247.out
     have H := HCM.out
     clear HCM
     by_cases c40 : t224 = 0
     rotate_left
     ·rw [if_neg c40] at H
      have c40b0 : (t224 == 0) = false := beq_eq_false_iff_ne.mpr c40
      have c40b1 : (t224 != 0) = true := bne_iff_ne.mpr c40
      by_cases c64 : t233 = t224
      rotate_left
      ·rw [if_neg c64] at H
       have c64b0 : (t233 == t224) = false := beq_eq_false_iff_ne.mpr c64
       have c64b1 : (t233 != t224) = true := bne_iff_ne.mpr c64
       exact absurd (Option.some.inj H) Bool.false_ne_true
      rw [if_pos c64] at H
      have c64b0 : (t233 == t224) = true := beq_iff_eq.mpr c64
      have c64b1 : (t233 != t224) = false := bne_eq_false_iff_eq.mpr c64
      clear c64
      have hv_ := Option.some.inj H
      try go_wp2
      go_ret
      exact ⟨by first | rfl | (rw [hv_];done) | (simp [hv_];done) | (simp [← hv_];done) | (simp [] <;> rfl) | (simp [*] <;> rfl),by repeat (with_reducible first | exact HB.out | apply Y3 | apply Y1 | apply Y2 | refine Y4 ?_ GE216.out | refine Y4 ?_ GE225.out | refine Y4 ?_ GE234.out | refine Y4 ?_ GE247.out)⟩
     rw [if_pos c40] at H
     have c40b0 : (t224 == 0) = true := beq_iff_eq.mpr c40
     have c40b1 : (t224 != 0) = false := bne_eq_false_iff_eq.mpr c40
     clear c40
     by_cases c41 : t233 = 0
     rotate_left
     ·rw [if_neg c41] at H
      have c41b0 : (t233 == 0) = false := beq_eq_false_iff_ne.mpr c41
      have c41b1 : (t233 != 0) = true := bne_iff_ne.mpr c41
      exact absurd (Option.some.inj H) Bool.false_ne_true
     rw [if_pos c41] at H
     have c41b0 : (t233 == 0) = true := beq_iff_eq.mpr c41
     have c41b1 : (t233 != 0) = false := bne_eq_false_iff_eq.mpr c41
     clear c41
     replace H := Y17.mp H
     obtain ⟨t248,A420,H⟩ := H
     try dsimp only at H
     have A42 := Y0 A420
     clear A420
     have hv_ := Option.some.inj H
     try go_wp2_with (first | (go_at_call 15;(with_reducible refine (proto_Same.calls _ _ t226 _ _ t229 _ _ y238 _ _ y244 t248 _ ?side1 ?side2 ?side3 ?side4 ?side5 ?side6 ?side7 ?side8 A42.out).mono ?_);(case side1 => refine (Kd.N_reads' (e := 34) (base := w.heap.size) (ok := fun k_ => (nB k_ (.slice Ao53 y238.length co53) ∧ (nB k_ (.slice Ao52 y244.length co52) ∧ (nB k_ (.slice Ao17 t208.length co17) ∧ (nB k_ (.slice Ao19 t211.length co19) ∧ (nB k_ (.slice Ao22 t217.length co22) ∧ (nB k_ (.slice Ao25 t220.length co25) ∧ (nB k_ (.slice Ao32 t229.length co32) ∧ (k_ ≠ gb216 ∧ (k_ ≠ gb225 ∧ (k_ ≠ gb234 ∧ k_ ≠ gb247))))))))))) (n := t226.length) (c := co28) ?_).2.2;exact (by (with_reducible repeat (first | apply Y20));exact (Kd.N_mono (Kd.N_far (p := ⟨gb247,1,none⟩) (Kd.N_far (p := ⟨gb247,0,none⟩) (Kd.N_mono HO_235000.out (fun k_ hk => (⟨hk,hk.2.2.2.2.2.2.2.2.2.2⟩ : _ ∧ k_ ≠ gb247))) (fun _ hk => hk.2) (.slice Ao53 y238.length co53)) (fun _ hk => hk.2) (.slice Ao52 y244.length co52)) (fun _ h_ => h_.1))));(case side2 => exact (Kd.N_reads' HO_235000.out).2.1);(case side3 => refine (Kd.N_reads' (e := 68) (base := w.heap.size) (ok := fun k_ => (nB k_ (.slice Ao53 y238.length co53) ∧ (nB k_ (.slice Ao52 y244.length co52) ∧ (nB k_ (.slice Ao17 t208.length co17) ∧ (nB k_ (.slice Ao19 t211.length co19) ∧ (nB k_ (.slice Ao22 t217.length co22) ∧ (nB k_ (.slice Ao25 t220.length co25) ∧ (nB k_ (.slice Ao28 t226.length co28) ∧ (k_ ≠ gb216 ∧ (k_ ≠ gb225 ∧ (k_ ≠ gb234 ∧ k_ ≠ gb247))))))))))) (n := t229.length) (c := co32) ?_).2.2;exact (by (with_reducible repeat (first | apply Y20));exact (Kd.N_mono (Kd.N_far (p := ⟨gb247,1,none⟩) (Kd.N_far (p := ⟨gb247,0,none⟩) (Kd.N_mono HO_235001.out (fun k_ hk => (⟨hk,hk.2.2.2.2.2.2.2.2.2.2⟩ : _ ∧ k_ ≠ gb247))) (fun _ hk => hk.2) (.slice Ao53 y238.length co53)) (fun _ hk => hk.2) (.slice Ao52 y244.length co52)) (fun _ h_ => h_.1))));(case side4 => exact (Kd.N_reads' HO_235001.out).2.1);(case side5 => refine (Kd.N_reads' (e := 34) (base := w.heap.size) (ok := fun k_ => (nB k_ (.slice Ao52 y244.length co52) ∧ (nB k_ (.slice Ao19 t211.length co19) ∧ (nB k_ (.slice Ao25 t220.length co25) ∧ (nB k_ (.slice Ao28 t226.length co28) ∧ (nB k_ (.slice Ao32 t229.length co32) ∧ (k_ ≠ gb216 ∧ (k_ ≠ gb225 ∧ (k_ ≠ gb234 ∧ k_ ≠ gb247))))))))) (n := y238.length) (c := co53) ?_).2.2;exact (by (with_reducible repeat (first | apply Y20));exact (Kd.N_mono (Kd.N_far (p := ⟨gb247,1,none⟩) (Kd.N_far (p := ⟨gb247,0,none⟩) (Kd.N_mono HO240.out (fun k_ hk => (⟨hk,hk.2.2.2.2.2.2.2.2⟩ : _ ∧ k_ ≠ gb247))) (fun _ hk => hk.2) (.slice Ao53 y238.length co53)) (fun _ hk => hk.2) (.slice Ao52 y244.length co52)) (fun _ h_ => h_.1))));(case side6 => exact (Kd.N_reads' HO240.out).2.1);(case side7 => refine (Kd.N_reads' (e := 68) (base := w.heap.size) (ok := fun k_ => (nB k_ (.slice Ao53 y238.length co53) ∧ (nB k_ (.slice Ao17 t208.length co17) ∧ (nB k_ (.slice Ao22 t217.length co22) ∧ (nB k_ (.slice Ao28 t226.length co28) ∧ (nB k_ (.slice Ao32 t229.length co32) ∧ (k_ ≠ gb216 ∧ (k_ ≠ gb225 ∧ (k_ ≠ gb234 ∧ k_ ≠ gb247))))))))) (n := y244.length) (c := co52) ?_).2.2;exact (by (with_reducible repeat (first | apply Y20));exact (Kd.N_mono (Kd.N_far (p := ⟨gb247,1,none⟩) (Kd.N_far (p := ⟨gb247,0,none⟩) (Kd.N_mono HO246.out (fun k_ hk => (⟨hk,hk.2.2.2.2.2.2.2.2⟩ : _ ∧ k_ ≠ gb247))) (fun _ hk => hk.2) (.slice Ao53 y238.length co53)) (fun _ hk => hk.2) (.slice Ao52 y244.length co52)) (fun _ h_ => h_.1))));(case side8 => exact (Kd.N_reads' HO246.out).2.1);rintro e w63 ⟨rfl,hb⟩;have n0_ := Y0 (Kd.N_below (by (with_reducible repeat (first | apply Y20));exact (Kd.N_mono (Kd.N_far (p := ⟨gb247,1,none⟩) (Kd.N_far (p := ⟨gb247,0,none⟩) (Kd.N_mono HO_217000.out (fun k_ hk => (⟨hk,hk.2.2.2.2.2.2.2.2.2.2⟩ : _ ∧ k_ ≠ gb247))) (fun _ hk => hk.2) (.slice Ao53 y238.length co53)) (fun _ hk => hk.2) (.slice Ao52 y244.length co52)) (fun _ h_ => h_.1))) hb);have n1_ := Y0 (Kd.N_below (by (with_reducible repeat (first | apply Y20));exact (Kd.N_mono (Kd.N_far (p := ⟨gb247,1,none⟩) (Kd.N_far (p := ⟨gb247,0,none⟩) (Kd.N_mono HO_217001.out (fun k_ hk => (⟨hk,hk.2.2.2.2.2.2.2.2.2.2⟩ : _ ∧ k_ ≠ gb247))) (fun _ hk => hk.2) (.slice Ao53 y238.length co53)) (fun _ hk => hk.2) (.slice Ao52 y244.length co52)) (fun _ h_ => h_.1))) hb);have n2_ := Y0 (Kd.N_below (by (with_reducible repeat (first | apply Y20));exact (Kd.N_mono (Kd.N_far (p := ⟨gb247,1,none⟩) (Kd.N_far (p := ⟨gb247,0,none⟩) (Kd.N_mono HO_226000.out (fun k_ hk => (⟨hk,hk.2.2.2.2.2.2.2.2.2.2⟩ : _ ∧ k_ ≠ gb247))) (fun _ hk => hk.2) (.slice Ao53 y238.length co53)) (fun _ hk => hk.2) (.slice Ao52 y244.length co52)) (fun _ h_ => h_.1))) hb);have n3_ := Y0 (Kd.N_below (by (with_reducible repeat (first | apply Y20));exact (Kd.N_mono (Kd.N_far (p := ⟨gb247,1,none⟩) (Kd.N_far (p := ⟨gb247,0,none⟩) (Kd.N_mono HO_226001.out (fun k_ hk => (⟨hk,hk.2.2.2.2.2.2.2.2.2.2⟩ : _ ∧ k_ ≠ gb247))) (fun _ hk => hk.2) (.slice Ao53 y238.length co53)) (fun _ hk => hk.2) (.slice Ao52 y244.length co52)) (fun _ h_ => h_.1))) hb);have n4_ := Y0 (Kd.N_below (by (with_reducible repeat (first | apply Y20));exact (Kd.N_mono (Kd.N_far (p := ⟨gb247,1,none⟩) (Kd.N_far (p := ⟨gb247,0,none⟩) (Kd.N_mono HO_235000.out (fun k_ hk => (⟨hk,hk.2.2.2.2.2.2.2.2.2.2⟩ : _ ∧ k_ ≠ gb247))) (fun _ hk => hk.2) (.slice Ao53 y238.length co53)) (fun _ hk => hk.2) (.slice Ao52 y244.length co52)) (fun _ h_ => h_.1))) hb);have n5_ := Y0 (Kd.N_below (by (with_reducible repeat (first | apply Y20));exact (Kd.N_mono (Kd.N_far (p := ⟨gb247,1,none⟩) (Kd.N_far (p := ⟨gb247,0,none⟩) (Kd.N_mono HO_235001.out (fun k_ hk => (⟨hk,hk.2.2.2.2.2.2.2.2.2.2⟩ : _ ∧ k_ ≠ gb247))) (fun _ hk => hk.2) (.slice Ao53 y238.length co53)) (fun _ hk => hk.2) (.slice Ao52 y244.length co52)) (fun _ h_ => h_.1))) hb);have n6_ := Y0 (Kd.N_below (by (with_reducible repeat (first | apply Y20));exact (Kd.N_mono (Kd.N_far (p := ⟨gb247,1,none⟩) (Kd.N_far (p := ⟨gb247,0,none⟩) (Kd.N_mono HO240.out (fun k_ hk => (⟨hk,hk.2.2.2.2.2.2.2.2⟩ : _ ∧ k_ ≠ gb247))) (fun _ hk => hk.2) (.slice Ao53 y238.length co53)) (fun _ hk => hk.2) (.slice Ao52 y244.length co52)) (fun _ h_ => h_.1))) hb);have n7_ := Y0 (Kd.N_below (by (with_reducible repeat (first | apply Y20));exact (Kd.N_mono (Kd.N_far (p := ⟨gb247,1,none⟩) (Kd.N_far (p := ⟨gb247,0,none⟩) (Kd.N_mono HO246.out (fun k_ hk => (⟨hk,hk.2.2.2.2.2.2.2.2⟩ : _ ∧ k_ ≠ gb247))) (fun _ hk => hk.2) (.slice Ao53 y238.length co53)) (fun _ hk => hk.2) (.slice Ao52 y244.length co52)) (fun _ h_ => h_.1))) hb);have n8_ := Y0 (blk_below (g := gb216) (o := .cells #[.slice Ao17 t208.length co17,.slice Ao19 t211.length co19] 26 (0,0)) (by (with_reducible repeat first | apply Y11 | apply Y13 | apply Y12);refine blk_far ?_ NB216_247.out _;(with_reducible repeat first | apply Y11 | apply Y13 | apply Y12);refine blk_far ?_ NB216_247.out _;(with_reducible repeat first | apply Y11 | apply Y13 | apply Y12);exact BK216.out) hb);have n9_ := Y0 (blk_below (g := gb225) (o := .cells #[.slice Ao22 t217.length co22,.slice Ao25 t220.length co25] 26 (0,0)) (by (with_reducible repeat first | apply Y11 | apply Y13 | apply Y12);refine blk_far ?_ NB225_247.out _;(with_reducible repeat first | apply Y11 | apply Y13 | apply Y12);refine blk_far ?_ NB225_247.out _;(with_reducible repeat first | apply Y11 | apply Y13 | apply Y12);exact BK225.out) hb);have n10_ := Y0 (blk_below (g := gb234) (o := .cells #[.slice Ao28 t226.length co28,.slice Ao32 t229.length co32] 26 (0,0)) (by (with_reducible repeat first | apply Y11 | apply Y13 | apply Y12);refine blk_far ?_ NB234_247.out _;(with_reducible repeat first | apply Y11 | apply Y13 | apply Y12);refine blk_far ?_ NB234_247.out _;(with_reducible repeat first | apply Y11 | apply Y13 | apply Y12);exact BK234.out) hb);have n11_ := Y0 (blk_below (g := gb247) (o := .cells #[.slice Ao53 y238.length co53,.slice Ao52 y244.length co52] 26 (0,0)) (by (with_reducible repeat first | apply Y11 | apply Y13 | apply Y12);refine blk_put (cs := #[.slice Ao53 y238.length co53,.slice none 0 0]) ?_ 1 _ rfl;(with_reducible repeat first | apply Y11 | apply Y13 | apply Y12);refine blk_put (cs := #[.slice none 0 0,.slice none 0 0]) ?_ 0 _ rfl;(with_reducible repeat first | apply Y11 | apply Y13 | apply Y12);exact BK247.out) hb);have n12_ := Y0 (below_step (by repeat (with_reducible first | exact HB.out | apply Y3 | apply Y1 | apply Y2 | refine Y4 ?_ GE216.out | refine Y4 ?_ GE225.out | refine Y4 ?_ GE234.out | refine Y4 ?_ GE247.out)) hb);clear HO_217000;clear HO_217001;clear HO_226000;clear HO_226001;clear HO_235000;clear HO_235001;clear HO240;clear HO246;clear BK216;clear BK225;clear BK234;clear BK247;clear HB;have HO_217000 := n0_;have HO_217001 := n1_;have HO_226000 := n2_;have HO_226001 := n3_;have HO_235000 := n4_;have HO_235001 := n5_;have HO240 := n6_;have HO246 := n7_;have BK216 := n8_;have BK225 := n9_;have BK234 := n10_;have BK247 := n11_;have HB := n12_;clear n0_ n1_ n2_ n3_ n4_ n5_ n6_ n7_ n8_ n9_ n10_ n11_ n12_;(try clear hb);(try clear hb2);(try clear hk);(try clear hi)))
     go_ret
     exact ⟨by first | rfl | (rw [hv_];done) | (simp [hv_];done) | (simp [← hv_];done) | (simp [] <;> rfl) | (simp [*] <;> rfl),by repeat (with_reducible first | exact HB.out | apply Y3 | apply Y1 | apply Y2 | refine Y4 ?_ GE216.out | refine Y4 ?_ GE225.out | refine Y4 ?_ GE234.out | refine Y4 ?_ GE247.out)⟩
def trufflelaw07_ProtoJoin.Pure : Prop := ∀ (a0 : ByteArray) (a1 : ByteArray),a0.size ≤ 140737488351232 → a1.size ≤ 140737488351232 → ∃ k,trufflelaw07_ProtoJoin.f k a0 a1 = some true
theorem trufflelaw07_ProtoJoin.walk (P : trufflelaw07_ProtoJoin.Pure) (a0 : ByteArray) (a1 : ByteArray) (w : World) (w0 : a0.size ≤ 140737488351232) (w1 : a1.size ≤ 140737488351232) (hG : GInv w) :
  Calls Tryz.prog 5 #[.string a0,.string a1] w fun e w' => e = .returned (.bool true) ∧ Below w.heap.size w w' := by
 obtain ⟨k,h⟩ := P a0 a1 w0 w1
 refine (trufflelaw07_ProtoJoin.calls k a0 a1 w hG h).mono ?_
 rintro e w' ⟨rfl,hd⟩
 exact ⟨rfl,hd⟩
end Go.Proofs.YtddpjjhekhompaaGreatDoor.P
