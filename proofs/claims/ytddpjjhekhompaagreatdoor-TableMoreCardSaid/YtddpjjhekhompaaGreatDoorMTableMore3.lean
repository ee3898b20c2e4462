/- Part 3 of what the law TableMore leans on: contracts of the functions that it reaches, and plain lemmas. No condition. -/
import Derived.Lib.AppendIntMem
import Derived.Lib.AtoiErrMem
import Derived.StillTailTactics
import Derived.Maps.Own
import Derived.ChangeMaps4
import Derived.Test.YtddpjjhekhompaaGreatDoorMTableMore2
namespace Go.Proofs.YtddpjjhekhompaaGreatDoor.P
open Go.RowKit Go.Proofs.YtddpjjhekhompaaGreatDoorW.PrintWords Go.Proofs.YtddpjjhekhompaaGreatDoorW.PrintLast Go.Proofs.YtddpjjhekhompaaGreatDoorW.PrintMore
attribute [local go_sem] max2_int max_two
set_option linter.unusedVariables false
set_option linter.unusedSimpArgs false
def token_reader_skip.l0:Nat→ByteArray→Int→Option (ByteArray × Int)
 | 0,_,_=>none
 | k + 1,x1000,x1001=>if x1001 < (x1000.size:Int) then (if 0≤x1001 then ((strings_IndexByte.f (⟨#[32,9,10,13]⟩:ByteArray) (bt x1000 x1001)).bind fun t127=>(if t127 ≥ 0 then (token_reader_skip.l0 k x1000 (wrap64 (x1001 + 1))) else ((token_reader_rest.f x1000 x1001).bind fun bt128=>((strings_HasPrefix.f bt128.1 (⟨#[47,47]⟩:ByteArray)).bind fun t131=>(if t131=true then ((token_reader_rest.f bt128.2.1 bt128.2.2).bind fun bt132=>((strings_Cut.f bt132.1 (⟨#[10]⟩:ByteArray)).bind fun bt135=>(token_reader_skip.l0 k bt132.2.1 (wrap64 (bt132.2.2 + (bt135.1.size:Int)))))) else (some (bt128.2.1,bt128.2.2))))))) else (none)) else (some (x1000,x1001))
def token_reader_skip.f (k:Nat) (s0_0:ByteArray) (s0_1:Int):Option (ByteArray × Int):=token_reader_skip.l0 k s0_0 s0_1
set_option maxHeartbeats 8000000 in
set_option maxRecDepth 100000 in
theorem token_reader_skip.calls (k:Nat) (g:Nat) (s0_0:ByteArray) (s0_1:Int) (r1:ByteArray) (r2:Int) (w0 w:World) (hI:IsS145 w0 w g s0_0 s0_1) (hB:Below w0.heap.size w0 w) (h:token_reader_skip.f k s0_0 s0_1=some (r1,r2)) :
  Calls Tryz.prog 86 #[.pointer (some ⟨g,0,none⟩)] w fun e w'=>e = .returned (.tuple #[])∧IsS145 w0 w' g r1 r2∧Below w0.heap.size w0 w'∧KeepBut w w' g none:=by
 have HI0:=Y0 hI
 have HK:=Y0 (KeepBut.refl w g none)
 have HL:=Y0 hB.size
 clear hI
 have HW0:=Y0 hB.size
 have HB:=Y0 hB
 clear hB
 have H:(token_reader_skip.l0 k s0_0 s0_1)=some (r1,r2):=h
 clear h
 have H':=Y0 H
 clear H
 go_enter Tryz.func86,Tryz.ntmps86
 go_wp2
 repeat (go_quiet (fail);try go_wp2)
 go_loopg [] k (fun kq w'=>∃ (x1000_1:ByteArray) (x1001_1:Int),Aside0 (token_reader_skip.l0 kq x1000_1 x1001_1=some (r1,r2))∧Aside0 (kq≤k)∧Aside0 (IsS145 w0 w' g x1000_1 x1001_1)∧Aside0 (KeepBut w w' g none)∧Aside0 (Below w0.heap.size w0 w'))
 case atStart=>exact ⟨(s0_0),(s0_1),H',⟨Nat.le_refl _⟩,⟨J10⟩,⟨J2⟩,⟨J27⟩⟩
 case round =>
  clear H'
  obtain ⟨x1000_1,x1001_1,HA,HK1,HI0,HK,HB⟩:=hrel
  cases gk with
  | zero=>exact absurd HA.out (by simp [token_reader_skip.l0])
  | succ k1 =>
   have H:=HA.out
   clear HA
   simp only [token_reader_skip.l0] at H
   by_cases c2:x1001_1 < (x1000_1.size:Int)
   rotate_left
   ·rw [if_neg c2] at H
    have c2b0:decide (x1001_1 < (x1000_1.size:Int))=false:=decide_eq_false c2
    clear c2
    simp only [Option.some.injEq,Prod.mk.injEq] at H
    obtain ⟨rfl,rfl⟩:=H
    obtain ⟨HGz19,hgz19⟩:=HI0.out
    have hcz19_0:=cellS145_0 HGz19
    have hcz19_1:=cellS145_1 HGz19
    have hfz19_0:=blk_frozen HGz19 0
    have hfz19_1:=blk_frozen HGz19 1
    clear HGz19 hgz19
    go_wp2
    repeat (go_quiet (fail);try go_wp2)
    first|go_end0|((try simp only [Exit.inBlock,Exit.then]);refine bodyPost_ret (results_none rfl _ _ _) rfl ?_)
    exact ⟨J21,J10,J27,J2⟩
   rw [if_pos c2] at H
   have c2b0:decide (x1001_1 < (x1000_1.size:Int))=true:=decide_eq_true c2
   clear c2
   by_cases c3:0≤x1001_1
   rotate_left
   ·rw [if_neg c3] at H
    exact absurd H J53
   rw [if_pos c3] at H
   have c3b0:decide (0≤x1001_1)=true:=decide_eq_true c3
   clear c3
   replace H:=Y17.mp H
   obtain ⟨t127,A50,H⟩:=H
   replace H:(if t127 ≥ 0 then (token_reader_skip.l0 k1 x1000_1 (wrap64 (x1001_1 + 1))) else ((token_reader_rest.f x1000_1 x1001_1).bind fun bt128=>((strings_HasPrefix.f bt128.1 (⟨#[47,47]⟩:ByteArray)).bind fun t131=>(if t131=true then ((token_reader_rest.f bt128.2.1 bt128.2.2).bind fun bt132=>((strings_Cut.f bt132.1 (⟨#[10]⟩:ByteArray)).bind fun bt135=>(token_reader_skip.l0 k1 bt132.2.1 (wrap64 (bt132.2.2 + (bt135.1.size:Int)))))) else (some (bt128.2.1,bt128.2.2))))))=some (r1,r2):=H
   have A5:=Y0 A50
   clear A50
   by_cases c6:t127 ≥ 0
   ·rw [if_pos c6] at H
    have c6b0:decide (0≤t127)=true:=decide_eq_true c6
    clear c6
    have H':=Y0 H
    clear H
    obtain ⟨HGz7,hgz7⟩:=HI0.out
    have hcz7_0:=cellS145_0 HGz7
    have hcz7_1:=cellS145_1 HGz7
    have hfz7_0:=blk_frozen HGz7 0
    have hfz7_1:=blk_frozen HGz7 1
    clear HGz7 hgz7
    have p4:0≤(x1001_1:Int):=of_decide_eq_true J3
    have q4:x1001_1 < (x1000_1.size:Int):=of_decide_eq_true J3
    have hx4:=bt_at x1000_1 x1001_1
    replace p4:=eq_true p4
    replace q4:=eq_true q4
    go_wp2_with (first|(go_at_call 124;(with_reducible refine (strings_IndexByte.calls (⟨#[32,9,10,13]⟩:ByteArray) (bt x1000_1 x1001_1) t127 _ A5.out).mono ?_);rintro e w' ⟨rfl,⟨nd,rfl⟩⟩;(try first|exact ⟨rfl,_,World.drewN_drewN _ _ _⟩|exact ⟨rfl,_,Eq.trans (World.drewN_drewN _ _ _) (congrArg (World.drewN _) (Nat.add_assoc _ _ _))⟩)))
    repeat (go_quiet (first|(go_at_call 124;(with_reducible refine (strings_IndexByte.calls (⟨#[32,9,10,13]⟩:ByteArray) (bt x1000_1 x1001_1) t127 _ A5.out).mono ?_);rintro e w' ⟨rfl,⟨nd,rfl⟩⟩;(try first|exact ⟨rfl,_,World.drewN_drewN _ _ _⟩|exact ⟨rfl,_,Eq.trans (World.drewN_drewN _ _ _) (congrArg (World.drewN _) (Nat.add_assoc _ _ _))⟩)));try go_wp2_with (first|(go_at_call 124;(with_reducible refine (strings_IndexByte.calls (⟨#[32,9,10,13]⟩:ByteArray) (bt x1000_1 x1001_1) t127 _ A5.out).mono ?_);rintro e w' ⟨rfl,⟨nd,rfl⟩⟩;(try first|exact ⟨rfl,_,World.drewN_drewN _ _ _⟩|exact ⟨rfl,_,Eq.trans (World.drewN_drewN _ _ _) (congrArg (World.drewN _) (Nat.add_assoc _ _ _))⟩))))
    go_roundg k1
    case measure=>have:=HK1.out;omega
    case rel=>exact ⟨(x1000_1),(wrap64 (x1001_1 + 1)),H',⟨J123⟩,⟨J10⟩,⟨J2⟩,⟨J27⟩⟩
   rw [if_neg c6] at H
   have c6b0:decide (0≤t127)=false:=decide_eq_false c6
   clear c6
   replace H:=Y17.mp H
   obtain ⟨⟨t128,t129,t130⟩,A80,H⟩:=H
   replace H:((strings_HasPrefix.f t128 (⟨#[47,47]⟩:ByteArray)).bind fun t131=>(if t131=true then ((token_reader_rest.f t129 t130).bind fun bt132=>((strings_Cut.f bt132.1 (⟨#[10]⟩:ByteArray)).bind fun bt135=>(token_reader_skip.l0 k1 bt132.2.1 (wrap64 (bt132.2.2 + (bt135.1.size:Int)))))) else (some (t129,t130))))=some (r1,r2):=H
   have A8:=Y0 A80
   clear A80
   replace H:=Y17.mp H
   obtain ⟨t131,A90,H⟩:=H
   replace H:(if t131=true then ((token_reader_rest.f t129 t130).bind fun bt132=>((strings_Cut.f bt132.1 (⟨#[10]⟩:ByteArray)).bind fun bt135=>(token_reader_skip.l0 k1 bt132.2.1 (wrap64 (bt132.2.2 + (bt135.1.size:Int)))))) else (some (t129,t130)))=some (r1,r2):=H
   have A9:=Y0 A90
   clear A90
   by_cases c10:t131=true
   rotate_left
   ·replace c10:=Bool.eq_false_iff.mpr c10
    subst c10
    have H1:(some (t129,t130))=some (r1,r2):=by first|(rw [if_neg (show ¬ (false=true) by decide)] at H;exact H)|rfl
    clear H
    have H:=H1
    clear H1
    simp only [Option.some.injEq,Prod.mk.injEq] at H
    obtain ⟨rfl,rfl⟩:=H
    obtain ⟨HGz17,hgz17⟩:=HI0.out
    have hcz17_0:=cellS145_0 HGz17
    have hcz17_1:=cellS145_1 HGz17
    have hfz17_0:=blk_frozen HGz17 0
    have hfz17_1:=blk_frozen HGz17 1
    clear HGz17 hgz17
    have p4:0≤(x1001_1:Int):=of_decide_eq_true J3
    have q4:x1001_1 < (x1000_1.size:Int):=of_decide_eq_true J3
    have hx4:=bt_at x1000_1 x1001_1
    replace p4:=eq_true p4
    replace q4:=eq_true q4
    go_wp2_with (first|(go_at_call 124;(with_reducible refine (strings_IndexByte.calls (⟨#[32,9,10,13]⟩:ByteArray) (bt x1000_1 x1001_1) t127 _ A5.out).mono ?_);rintro e w' ⟨rfl,⟨nd,rfl⟩⟩;(try first|exact ⟨rfl,_,World.drewN_drewN _ _ _⟩|exact ⟨rfl,_,Eq.trans (World.drewN_drewN _ _ _) (congrArg (World.drewN _) (Nat.add_assoc _ _ _))⟩))|(go_at_call 126;(with_reducible refine (token_reader_rest.calls g x1000_1 x1001_1 t128 t129 t130 w0 _ ?side1 ?side2 A8.out).mono ?_);(case side1=>repeat (first|(with_reducible first|exact HI0.out|apply IsS145.alloc|apply IsS145.drewN|apply IsS145.drew|apply IsS145.set_0|apply IsS145.set_1)|exact HI0.out));(case side2=>repeat (first|(with_reducible first|exact HB.out|apply Y3|apply Y1|apply Y2|refine Y4 ?_ (IsS145.ge HI0.out))|exact HB.out));rintro e w18 ⟨rfl,hi,hb,hk⟩;have n0_:=Y0 (KeepBut.trans J2 hk (.inl rfl));have n1_:=Y0 (hb);have n2_:=Y0 (hi);clear HK;clear HB;clear HI0;have HK:=n0_;have HB:=n1_;have HI0:=n2_;clear n0_ n1_ n2_;(try clear hb);(try clear hb2);(try clear hk);(try clear hi))|(go_at_call 125;(with_reducible refine (strings_HasPrefix.calls t128 (⟨#[47,47]⟩:ByteArray) false _ A9.out).mono ?_);rintro e w' ⟨rfl,⟨nd,rfl⟩⟩;(try first|exact ⟨rfl,_,World.drewN_drewN _ _ _⟩|exact ⟨rfl,_,Eq.trans (World.drewN_drewN _ _ _) (congrArg (World.drewN _) (Nat.add_assoc _ _ _))⟩)))
    repeat (go_quiet (first|(go_at_call 124;(with_reducible refine (strings_IndexByte.calls (⟨#[32,9,10,13]⟩:ByteArray) (bt x1000_1 x1001_1) t127 _ A5.out).mono ?_);rintro e w' ⟨rfl,⟨nd,rfl⟩⟩;(try first|exact ⟨rfl,_,World.drewN_drewN _ _ _⟩|exact ⟨rfl,_,Eq.trans (World.drewN_drewN _ _ _) (congrArg (World.drewN _) (Nat.add_assoc _ _ _))⟩))|(go_at_call 126;(with_reducible refine (token_reader_rest.calls g x1000_1 x1001_1 t128 t129 t130 w0 _ ?side1 ?side2 A8.out).mono ?_);(case side1=>repeat (first|(with_reducible first|exact HI0.out|apply IsS145.alloc|apply IsS145.drewN|apply IsS145.drew|apply IsS145.set_0|apply IsS145.set_1)|exact HI0.out));(case side2=>repeat (first|(with_reducible first|exact HB.out|apply Y3|apply Y1|apply Y2|refine Y4 ?_ (IsS145.ge HI0.out))|exact HB.out));rintro e w18 ⟨rfl,hi,hb,hk⟩;have n0_:=Y0 (KeepBut.trans J2 hk (.inl rfl));have n1_:=Y0 (hb);have n2_:=Y0 (hi);clear HK;clear HB;clear HI0;have HK:=n0_;have HB:=n1_;have HI0:=n2_;clear n0_ n1_ n2_;(try clear hb);(try clear hb2);(try clear hk);(try clear hi))|(go_at_call 125;(with_reducible refine (strings_HasPrefix.calls t128 (⟨#[47,47]⟩:ByteArray) false _ A9.out).mono ?_);rintro e w' ⟨rfl,⟨nd,rfl⟩⟩;(try first|exact ⟨rfl,_,World.drewN_drewN _ _ _⟩|exact ⟨rfl,_,Eq.trans (World.drewN_drewN _ _ _) (congrArg (World.drewN _) (Nat.add_assoc _ _ _))⟩)));try go_wp2_with (first|(go_at_call 124;(with_reducible refine (strings_IndexByte.calls (⟨#[32,9,10,13]⟩:ByteArray) (bt x1000_1 x1001_1) t127 _ A5.out).mono ?_);rintro e w' ⟨rfl,⟨nd,rfl⟩⟩;(try first|exact ⟨rfl,_,World.drewN_drewN _ _ _⟩|exact ⟨rfl,_,Eq.trans (World.drewN_drewN _ _ _) (congrArg (World.drewN _) (Nat.add_assoc _ _ _))⟩))|(go_at_call 126;(with_reducible refine (token_reader_rest.calls g x1000_1 x1001_1 t128 t129 t130 w0 _ ?side1 ?side2 A8.out).mono ?_);(case side1=>repeat (first|(with_reducible first|exact HI0.out|apply IsS145.alloc|apply IsS145.drewN|apply IsS145.drew|apply IsS145.set_0|apply IsS145.set_1)|exact HI0.out));(case side2=>repeat (first|(with_reducible first|exact HB.out|apply Y3|apply Y1|apply Y2|refine Y4 ?_ (IsS145.ge HI0.out))|exact HB.out));rintro e w18 ⟨rfl,hi,hb,hk⟩;have n0_:=Y0 (KeepBut.trans J2 hk (.inl rfl));have n1_:=Y0 (hb);have n2_:=Y0 (hi);clear HK;clear HB;clear HI0;have HK:=n0_;have HB:=n1_;have HI0:=n2_;clear n0_ n1_ n2_;(try clear hb);(try clear hb2);(try clear hk);(try clear hi))|(go_at_call 125;(with_reducible refine (strings_HasPrefix.calls t128 (⟨#[47,47]⟩:ByteArray) false _ A9.out).mono ?_);rintro e w' ⟨rfl,⟨nd,rfl⟩⟩;(try first|exact ⟨rfl,_,World.drewN_drewN _ _ _⟩|exact ⟨rfl,_,Eq.trans (World.drewN_drewN _ _ _) (congrArg (World.drewN _) (Nat.add_assoc _ _ _))⟩))))
    first|go_end0|((try simp only [Exit.inBlock,Exit.then]);refine bodyPost_ret (results_none rfl _ _ _) rfl ?_)
    exact ⟨J21,J10,J27,J2⟩
   subst c10
   have H1:((token_reader_rest.f t129 t130).bind fun bt132=>((strings_Cut.f bt132.1 (⟨#[10]⟩:ByteArray)).bind fun bt135=>(token_reader_skip.l0 k1 bt132.2.1 (wrap64 (bt132.2.2 + (bt135.1.size:Int))))))=some (r1,r2):=by first|(rw [if_pos rfl] at H;exact H)|rfl
   clear H
   have H:=H1
   clear H1
   replace H:=Y17.mp H
   obtain ⟨⟨t132,t133,t134⟩,A110,H⟩:=H
   replace H:((strings_Cut.f t132 (⟨#[10]⟩:ByteArray)).bind fun bt135=>(token_reader_skip.l0 k1 t133 (wrap64 (t134 + (bt135.1.size:Int)))))=some (r1,r2):=H
   have A11:=Y0 A110
   clear A110
   replace H:=Y17.mp H
   obtain ⟨⟨t135,t136,t137⟩,A120,H⟩:=H
   replace H:(token_reader_skip.l0 k1 t133 (wrap64 (t134 + (t135.size:Int))))=some (r1,r2):=H
   have A12:=Y0 A120
   clear A120
   have H':=Y0 H
   clear H
   obtain ⟨HGz13,hgz13⟩:=HI0.out
   have hcz13_0:=cellS145_0 HGz13
   have hcz13_1:=cellS145_1 HGz13
   have hfz13_0:=blk_frozen HGz13 0
   have hfz13_1:=blk_frozen HGz13 1
   clear HGz13 hgz13
   have p4:0≤(x1001_1:Int):=of_decide_eq_true J3
   have q4:x1001_1 < (x1000_1.size:Int):=of_decide_eq_true J3
   have hx4:=bt_at x1000_1 x1001_1
   replace p4:=eq_true p4
   replace q4:=eq_true q4
   go_wp2_with (first|(go_at_call 124;(with_reducible refine (strings_IndexByte.calls (⟨#[32,9,10,13]⟩:ByteArray) (bt x1000_1 x1001_1) t127 _ A5.out).mono ?_);rintro e w' ⟨rfl,⟨nd,rfl⟩⟩;(try first|exact ⟨rfl,_,World.drewN_drewN _ _ _⟩|exact ⟨rfl,_,Eq.trans (World.drewN_drewN _ _ _) (congrArg (World.drewN _) (Nat.add_assoc _ _ _))⟩))|(go_at_call 126;(with_reducible refine (token_reader_rest.calls g x1000_1 x1001_1 t128 t129 t130 w0 _ ?side1 ?side2 A8.out).mono ?_);(case side1=>repeat (first|(with_reducible first|exact HI0.out|apply IsS145.alloc|apply IsS145.drewN|apply IsS145.drew|apply IsS145.set_0|apply IsS145.set_1)|exact HI0.out));(case side2=>repeat (first|(with_reducible first|exact HB.out|apply Y3|apply Y1|apply Y2|refine Y4 ?_ (IsS145.ge HI0.out))|exact HB.out));rintro e w14 ⟨rfl,hi,hb,hk⟩;have n0_:=Y0 (KeepBut.trans J2 hk (.inl rfl));have n1_:=Y0 (hb);have n2_:=Y0 (hi);clear HK;clear HB;clear HI0;have HK:=n0_;have HB:=n1_;have HI0:=n2_;clear n0_ n1_ n2_;(try clear hb);(try clear hb2);(try clear hk);(try clear hi))|(go_at_call 125;(with_reducible refine (strings_HasPrefix.calls t128 (⟨#[47,47]⟩:ByteArray) true _ A9.out).mono ?_);rintro e w' ⟨rfl,⟨nd,rfl⟩⟩;(try first|exact ⟨rfl,_,World.drewN_drewN _ _ _⟩|exact ⟨rfl,_,Eq.trans (World.drewN_drewN _ _ _) (congrArg (World.drewN _) (Nat.add_assoc _ _ _))⟩))|(go_at_call 126;(with_reducible refine (token_reader_rest.calls g t129 t130 t132 t133 t134 w0 _ ?side1 ?side2 A11.out).mono ?_);(case side1=>repeat (first|(with_reducible first|exact HI0.out|apply IsS145.alloc|apply IsS145.drewN|apply IsS145.drew|apply IsS145.set_0|apply IsS145.set_1)|exact HI0.out));(case side2=>repeat (first|(with_reducible first|exact HB.out|apply Y3|apply Y1|apply Y2|refine Y4 ?_ (IsS145.ge HI0.out))|exact HB.out));rintro e w15 ⟨rfl,hi,hb,hk⟩;have n0_:=Y0 (KeepBut.trans J2 hk (.inl rfl));have n1_:=Y0 (hb);have n2_:=Y0 (hi);clear HK;clear HB;clear HI0;have HK:=n0_;have HB:=n1_;have HI0:=n2_;clear n0_ n1_ n2_;(try clear hb);(try clear hb2);(try clear hk);(try clear hi))|(go_at_call 127;(with_reducible refine (strings_Cut.calls t132 (⟨#[10]⟩:ByteArray) t135 t136 t137 _ A12.out).mono ?_);rintro e w' ⟨rfl,⟨nd,rfl⟩⟩;(try first|exact ⟨rfl,_,World.drewN_drewN _ _ _⟩|exact ⟨rfl,_,Eq.trans (World.drewN_drewN _ _ _) (congrArg (World.drewN _) (Nat.add_assoc _ _ _))⟩);obtain ⟨HGz16,hgz16⟩:=HI0.out;have hcz16_0:=cellS145_0 HGz16;have hcz16_1:=cellS145_1 HGz16;have hfz16_0:=blk_frozen HGz16 0;have hfz16_1:=blk_frozen HGz16 1;clear HGz16 hgz16))
   repeat (go_quiet (first|(go_at_call 124;(with_reducible refine (strings_IndexByte.calls (⟨#[32,9,10,13]⟩:ByteArray) (bt x1000_1 x1001_1) t127 _ A5.out).mono ?_);rintro e w' ⟨rfl,⟨nd,rfl⟩⟩;(try first|exact ⟨rfl,_,World.drewN_drewN _ _ _⟩|exact ⟨rfl,_,Eq.trans (World.drewN_drewN _ _ _) (congrArg (World.drewN _) (Nat.add_assoc _ _ _))⟩))|(go_at_call 126;(with_reducible refine (token_reader_rest.calls g x1000_1 x1001_1 t128 t129 t130 w0 _ ?side1 ?side2 A8.out).mono ?_);(case side1=>repeat (first|(with_reducible first|exact HI0.out|apply IsS145.alloc|apply IsS145.drewN|apply IsS145.drew|apply IsS145.set_0|apply IsS145.set_1)|exact HI0.out));(case side2=>repeat (first|(with_reducible first|exact HB.out|apply Y3|apply Y1|apply Y2|refine Y4 ?_ (IsS145.ge HI0.out))|exact HB.out));rintro e w14 ⟨rfl,hi,hb,hk⟩;have n0_:=Y0 (KeepBut.trans J2 hk (.inl rfl));have n1_:=Y0 (hb);have n2_:=Y0 (hi);clear HK;clear HB;clear HI0;have HK:=n0_;have HB:=n1_;have HI0:=n2_;clear n0_ n1_ n2_;(try clear hb);(try clear hb2);(try clear hk);(try clear hi))|(go_at_call 125;(with_reducible refine (strings_HasPrefix.calls t128 (⟨#[47,47]⟩:ByteArray) true _ A9.out).mono ?_);rintro e w' ⟨rfl,⟨nd,rfl⟩⟩;(try first|exact ⟨rfl,_,World.drewN_drewN _ _ _⟩|exact ⟨rfl,_,Eq.trans (World.drewN_drewN _ _ _) (congrArg (World.drewN _) (Nat.add_assoc _ _ _))⟩))|(go_at_call 126;(with_reducible refine (token_reader_rest.calls g t129 t130 t132 t133 t134 w0 _ ?side1 ?side2 A11.out).mono ?_);(case side1=>repeat (first|(with_reducible first|exact HI0.out|apply IsS145.alloc|apply IsS145.drewN|apply IsS145.drew|apply IsS145.set_0|apply IsS145.set_1)|exact HI0.out));(case side2=>repeat (first|(with_reducible first|exact HB.out|apply Y3|apply Y1|apply Y2|refine Y4 ?_ (IsS145.ge HI0.out))|exact HB.out));rintro e w15 ⟨rfl,hi,hb,hk⟩;have n0_:=Y0 (KeepBut.trans J2 hk (.inl rfl));have n1_:=Y0 (hb);have n2_:=Y0 (hi);clear HK;clear HB;clear HI0;have HK:=n0_;have HB:=n1_;have HI0:=n2_;clear n0_ n1_ n2_;(try clear hb);(try clear hb2);(try clear hk);(try clear hi))|(go_at_call 127;(with_reducible refine (strings_Cut.calls t132 (⟨#[10]⟩:ByteArray) t135 t136 t137 _ A12.out).mono ?_);rintro e w' ⟨rfl,⟨nd,rfl⟩⟩;(try first|exact ⟨rfl,_,World.drewN_drewN _ _ _⟩|exact ⟨rfl,_,Eq.trans (World.drewN_drewN _ _ _) (congrArg (World.drewN _) (Nat.add_assoc _ _ _))⟩);obtain ⟨HGz16,hgz16⟩:=HI0.out;have hcz16_0:=cellS145_0 HGz16;have hcz16_1:=cellS145_1 HGz16;have hfz16_0:=blk_frozen HGz16 0;have hfz16_1:=blk_frozen HGz16 1;clear HGz16 hgz16));try go_wp2_with (first|(go_at_call 124;(with_reducible refine (strings_IndexByte.calls (⟨#[32,9,10,13]⟩:ByteArray) (bt x1000_1 x1001_1) t127 _ A5.out).mono ?_);rintro e w' ⟨rfl,⟨nd,rfl⟩⟩;(try first|exact ⟨rfl,_,World.drewN_drewN _ _ _⟩|exact ⟨rfl,_,Eq.trans (World.drewN_drewN _ _ _) (congrArg (World.drewN _) (Nat.add_assoc _ _ _))⟩))|(go_at_call 126;(with_reducible refine (token_reader_rest.calls g x1000_1 x1001_1 t128 t129 t130 w0 _ ?side1 ?side2 A8.out).mono ?_);(case side1=>repeat (first|(with_reducible first|exact HI0.out|apply IsS145.alloc|apply IsS145.drewN|apply IsS145.drew|apply IsS145.set_0|apply IsS145.set_1)|exact HI0.out));(case side2=>repeat (first|(with_reducible first|exact HB.out|apply Y3|apply Y1|apply Y2|refine Y4 ?_ (IsS145.ge HI0.out))|exact HB.out));rintro e w14 ⟨rfl,hi,hb,hk⟩;have n0_:=Y0 (KeepBut.trans J2 hk (.inl rfl));have n1_:=Y0 (hb);have n2_:=Y0 (hi);clear HK;clear HB;clear HI0;have HK:=n0_;have HB:=n1_;have HI0:=n2_;clear n0_ n1_ n2_;(try clear hb);(try clear hb2);(try clear hk);(try clear hi))|(go_at_call 125;(with_reducible refine (strings_HasPrefix.calls t128 (⟨#[47,47]⟩:ByteArray) true _ A9.out).mono ?_);rintro e w' ⟨rfl,⟨nd,rfl⟩⟩;(try first|exact ⟨rfl,_,World.drewN_drewN _ _ _⟩|exact ⟨rfl,_,Eq.trans (World.drewN_drewN _ _ _) (congrArg (World.drewN _) (Nat.add_assoc _ _ _))⟩))|(go_at_call 126;(with_reducible refine (token_reader_rest.calls g t129 t130 t132 t133 t134 w0 _ ?side1 ?side2 A11.out).mono ?_);(case side1=>repeat (first|(with_reducible first|exact HI0.out|apply IsS145.alloc|apply IsS145.drewN|apply IsS145.drew|apply IsS145.set_0|apply IsS145.set_1)|exact HI0.out));(case side2=>repeat (first|(with_reducible first|exact HB.out|apply Y3|apply Y1|apply Y2|refine Y4 ?_ (IsS145.ge HI0.out))|exact HB.out));rintro e w15 ⟨rfl,hi,hb,hk⟩;have n0_:=Y0 (KeepBut.trans J2 hk (.inl rfl));have n1_:=Y0 (hb);have n2_:=Y0 (hi);clear HK;clear HB;clear HI0;have HK:=n0_;have HB:=n1_;have HI0:=n2_;clear n0_ n1_ n2_;(try clear hb);(try clear hb2);(try clear hk);(try clear hi))|(go_at_call 127;(with_reducible refine (strings_Cut.calls t132 (⟨#[10]⟩:ByteArray) t135 t136 t137 _ A12.out).mono ?_);rintro e w' ⟨rfl,⟨nd,rfl⟩⟩;(try first|exact ⟨rfl,_,World.drewN_drewN _ _ _⟩|exact ⟨rfl,_,Eq.trans (World.drewN_drewN _ _ _) (congrArg (World.drewN _) (Nat.add_assoc _ _ _))⟩);obtain ⟨HGz16,hgz16⟩:=HI0.out;have hcz16_0:=cellS145_0 HGz16;have hcz16_1:=cellS145_1 HGz16;have hfz16_0:=blk_frozen HGz16 0;have hfz16_1:=blk_frozen HGz16 1;clear HGz16 hgz16)))
   go_roundg k1
   case measure=>have:=HK1.out;omega
   case rel=>exact ⟨(t133),(wrap64 (t134 + (t135.size:Int))),H',⟨J123⟩,⟨J10⟩,⟨J2⟩,⟨J27⟩⟩
theorem format_any (n:Int) (h0 : -9223372036854775808≤n) (h1:n≤9223372036854775807) (w:World) (hG:GInv w) :
  Calls Tryz.prog 97 #[.int .i64 n,.int .i64 10] w fun e w'=>e = .returned (.string ⟨(Lib.itoa n).toArray⟩)∧Below w.heap.size w w':=by
 refine (Tryz.strconv_FormatInt_10 n h0 h1 w hG.tab).mono ?_
 rintro e w' ⟨rfl,k,os,rfl⟩
 exact ⟨rfl,Lib.below_grow _ w (Nat.le_refl _) k os⟩
def numV (l:List UInt8):Int:=match Lib.parseIntB 64 l with
 | .ok v=>v
 | .range=>Lib.intSat 64 l
 | _=>0
def numOk (l:List UInt8):Bool:=match Lib.parseIntB 64 l with
 | .ok v=>decide (Lib.itoa v=l)
 | _=>false
theorem parse_ok (s:ByteArray) (hs:s.size≤140737488351232) (v:Int) (h:Lib.parseIntB 64 s.data.toList = .ok v) (w:World) :
  Calls Tryz.prog 122 #[.string s,.int .i64 10,.int .i64 64] w fun e w'=>e = .returned (.tuple #[.int .i64 v,.nilIface])∧Below w.heap.size w w':=by
 refine (Tryz.strconv_ParseInt_10_at64_ok s J7 v h w).mono ?_
 rintro e w' ⟨rfl,rfl|⟨t,rfl⟩⟩
 ·exact ⟨rfl,Below.refl _ _⟩
 ·exact ⟨rfl,Lib.bytesWorld_below w _ t⟩
theorem parse_bad (s:ByteArray) (hs:s.size≤140737488351232) (h:∀ v,Lib.parseIntB 64 s.data.toList≠.ok v) (w:World) (hG:GInv w) :
  Calls Tryz.prog 122 #[.string s,.int .i64 10,.int .i64 64] w fun e w'=>∃ N:Nat,e = .returned (.tuple #[.int .i64 (numV s.data.toList),.iface 242 (.pointer (some ⟨N,0,none⟩))])∧Below w.heap.size w w':=by
 obtain ⟨⟨te,pe,h1⟩,⟨te2,pe2,h2⟩,h3,h4⟩:=hG
 unfold numV
 cases hp:Lib.parseIntB 64 s.data.toList with
 | ok v=>exact absurd hp (h v)
 | range =>
  refine (Tryz.strconv_ParseInt_10_at64_range s J7 hp _ w h2 (.inr ⟨te2,pe2,rfl⟩)).mono ?_
  rintro e w' ⟨N,rfl,_,_,hb⟩
  exact ⟨N,rfl,hb⟩
 | _ =>
  refine (Tryz.strconv_ParseInt_10_at64_syntax s J7 ⟨h,by rw [hp];intro e;cases e⟩ _ w h1 (.inr ⟨te,pe,rfl⟩)).mono ?_
  rintro e w' ⟨N,rfl,_,_,hb⟩
  exact ⟨N,rfl,hb⟩
theorem toList_inj {a b:ByteArray} (h:a.toList=b.toList):a=b:=by
 rw [ByteArray.toList_eq,ByteArray.toList_eq] at h
 cases a with|mk a=>cases b with|mk b=>exact congrArg ByteArray.mk (Array.toList_inj.mp h)
theorem parse_range (l:List UInt8) (v:Int) (h:Lib.parseIntB 64 l = .ok v) : -9223372036854775808≤v∧v≤9223372036854775807:=by
 have e:(2:Nat) ^ (64 - 1)=9223372036854775808:=by decide
 unfold Lib.parseIntB at h
 split at h
 ·cases h
 ·simp only [e] at h
  split at h
  ·cases h
  ·cases h
  ·split at h
   ·cases h
   ·split at h
    ·cases h
    ·injection h with h
     subst h
     split <;> omega
def token_reader_num.f (s0_0:ByteArray) (s0_1:Int):Option (Int × ByteArray × Int × Int × Bool × ByteArray × Int) :=
 (token_reader_while.f s0_0 s0_1 121).bind fun r=>some (1,r.1,numV r.1.data.toList,0,numOk r.1.data.toList,r.2.1,r.2.2)
set_option maxHeartbeats 4000000 in
set_option maxRecDepth 100000 in
theorem token_reader_num.calls (g:Nat) (s0_0:ByteArray) (s0_1:Int) (r1:Int) (r2:ByteArray) (r3:Int) (r4:Int) (r5:Bool) (r6:ByteArray) (r7:Int) (w0 w:World) (hI:IsS145 w0 w g s0_0 s0_1) (hB:Below w0.heap.size w0 w) (hG:GInv w0) (h:token_reader_num.f s0_0 s0_1=some (r1,r2,r3,r4,r5,r6,r7)) :
  Calls Tryz.prog 83 #[.pointer (some ⟨g,0,none⟩)] w fun e w'=>e = .returned (.tuple #[.agg #[.int .i64 r1,.string r2,.int .i64 r3,.int .i64 r4],.bool r5])∧IsS145 w0 w' g r6 r7∧Below w0.heap.size w0 w'∧KeepBut w w' g none:=by
 unfold token_reader_num.f at h
 obtain ⟨⟨t1,t2,t3⟩,A0,h⟩:=Option.bind_eq_some_iff.mp h
 simp only [Option.some.injEq,Prod.mk.injEq] at h
 obtain ⟨rfl,rfl,rfl,rfl,rfl,rfl,rfl⟩:=h
 have hsz:t1.size≤140737488351232:=by
  unfold token_reader_while.f at A0
  split at A0
  ·rename_i hc
   split at A0
   ·simp only [Option.some.injEq,Prod.mk.injEq] at A0
    obtain ⟨rfl,_⟩:=A0
    simp only [ByteArray.size_extract];omega
   ·split at A0
    ·simp only [Option.some.injEq,Prod.mk.injEq] at A0
     obtain ⟨rfl,_⟩:=A0
     simp only [ByteArray.size_extract];omega
    ·cases A0
  ·cases A0
 have A2:=Y0 A0
 clear A0
 have HI0:=Y0 hI
 have HK:=Y0 (KeepBut.refl w g none)
 have HL:=Y0 hB.size
 have HB:=Y0 hB
 clear hI hB
 have hu:=Tryz.underlying149
 by_cases hok:∃ v,Lib.parseIntB 64 t1.data.toList = .ok v
 rotate_left
 ·have hbad:∀ v,Lib.parseIntB 64 t1.data.toList≠.ok v:=fun v e=>hok ⟨v,e⟩
  have e2:numOk t1.data.toList=false:=by unfold numOk;cases hp:Lib.parseIntB 64 t1.data.toList <;> simp_all
  have HP:=Y0 (fun W hG=>parse_bad t1 hsz hbad W hG)
  rw [e2]
  clear e2 hok hbad h
  generalize numV t1.data.toList=v at *
  go_enter Tryz.func83,Tryz.ntmps83
  go_wp2_with (first
   | ((with_reducible refine gate_dst (N:=2) rfl ?_);refine box_event ?hg (N:=2) ?hd (cs:=#[.int .i64 0,.string (⟨#[]⟩:ByteArray),.int .i64 0,.int .i64 0]) (t:=149) ?hr ?_;(case hd=>rfl);(case hg=>rfl);(case hr=>first|(go_simp;done)|(go_simp;rfl));intro gb hg w3 hbox hb;have n0_:=Y0 (IsS145.below J10 hb);have n1_:=Y0 (KeepBut.trans J2 (KeepBut.of_below hb g none) (.inl rfl));have n2_:=Y0 (below_step J4 hb);have n3_:=Y0 hbox;have n4_:=Y0 (J67:w.heap.size≤gb);have n6_:=Y0 (J77:g≠gb);clear HI0 HK HB;have HI0:=n0_;have HK:=n1_;have HB:=n2_;have BK:=n3_;have GW:=n4_;have NB:=n6_;clear n0_ n1_ n2_ n3_ n4_ n6_;clear hb hbox hg)
   | ((with_reducible refine gate_callee (f:=119) rfl ?_);refine goesL_ (some 8) rfl rfl Tryz.func119 J0 rfl #[.pointer (some ⟨g,0,none⟩),.func (.func 121) #[] #[]] rfl J121 ?_;(with_reducible refine (token_reader_while.calls g s0_0 s0_1 121 t1 t2 t3 w0 _ ?side1 ?side2 A2.out).mono ?_);(case side1=>exact J10);(case side2=>exact J4);rintro e w4 ⟨rfl,hi,hb,hk⟩;refine ⟨_,rfl,?_⟩;have n0_:=Y0 (KeepBut.blk hk (g':=gb) (o:=.cells #[.int .i64 0,.string (⟨#[]⟩:ByteArray),.int .i64 0,.int .i64 0] 149 (0,0)) BK.out NB.out.symm J53);have n1_:=Y0 (KeepBut.trans J2 hk (.inl rfl));have n2_:=Y0 hb;have n3_:=Y0 hi;clear BK HK HB HI0;have BK:=n0_;have HK:=n1_;have HB:=n2_;have HI0:=n3_;clear n0_ n1_ n2_ n3_ hb hi hk)
   | (go_at_call 122;refine (HP.out _ ?side1).mono ?_;(case side1=>exact hG.below J4);rintro e w5 ⟨N,rfl,hb⟩;have n0_:=Y0 ((hb.block gb (blk_lt BK.out)).trans BK.out);have n1_:=Y0 (KeepBut.trans HK.out (KeepBut.of_below hb g none) (.inl rfl));have n2_:=Y0 (below_step HB.out hb);have n3_:=Y0 (IsS145.below HI0.out hb);clear BK HK HB HI0;have BK:=n0_;have HK:=n1_;have HB:=n2_;have HI0:=n3_;clear n0_ n1_ n2_ n3_ hb;have z0:_=some (Value.int .i64 0):=(blk_cell BK.out 0).trans rfl;have z1:_=some (Value.string (⟨#[]⟩:ByteArray)):=(blk_cell BK.out 1).trans rfl;have z2:_=some (Value.int .i64 0):=(blk_cell BK.out 2).trans rfl;have z3:_=some (Value.int .i64 0):=(blk_cell BK.out 3).trans rfl;have y0:=blk_frozen BK.out 0;have y1:=blk_frozen BK.out 1;have y2:=blk_frozen BK.out 2;have y3:=blk_frozen BK.out 3))
  refine bodyPost_ret (results_ct rfl _ _ gb 149 #[.int .i64 1,.string t1,.int .i64 v,.int .i64 0] (0,0) _ rfl J36 Tryz.underlying149 rfl J0) rfl ?_
  exact ⟨rfl,J68,J86,J78⟩
 obtain ⟨v,hv⟩:=hok
 have e1:numV t1.data.toList=v:=by unfold numV;rw [hv]
 have e2:numOk t1.data.toList=decide (Lib.itoa v=t1.data.toList):=by unfold numOk;rw [hv]
 have hbd:=parse_range _ _ hv
 have HP:=Y0 (fun W=>parse_ok t1 hsz v hv W)
 have HF:=Y0 (fun W hG=>format_any v hbd.1 hbd.2 W hG)
 rw [e1,e2]
 clear e1 e2 hv hbd h
 by_cases he:Lib.itoa v=t1.data.toList
 ·have hs:(⟨(Lib.itoa v).toArray⟩:ByteArray)=t1:=by rw [he]
  rw [hs] at HF
  rw [decide_eq_true he]
  clear hs he
  go_enter Tryz.func83,Tryz.ntmps83
  go_wp2_with (first
   | ((with_reducible refine gate_dst (N:=2) rfl ?_);refine box_event ?hg (N:=2) ?hd (cs:=#[.int .i64 0,.string (⟨#[]⟩:ByteArray),.int .i64 0,.int .i64 0]) (t:=149) ?hr ?_;(case hd=>rfl);(case hg=>rfl);(case hr=>first|(go_simp;done)|(go_simp;rfl));intro gb hg w3 hbox hb;have n0_:=Y0 (IsS145.below J10 hb);have n1_:=Y0 (KeepBut.trans J2 (KeepBut.of_below hb g none) (.inl rfl));have n2_:=Y0 (below_step J4 hb);have n3_:=Y0 hbox;have n4_:=Y0 (J67:w.heap.size≤gb);have n6_:=Y0 (J77:g≠gb);clear HI0 HK HB;have HI0:=n0_;have HK:=n1_;have HB:=n2_;have BK:=n3_;have GW:=n4_;have NB:=n6_;clear n0_ n1_ n2_ n3_ n4_ n6_;clear hb hbox hg)
   | ((with_reducible refine gate_callee (f:=119) rfl ?_);refine goesL_ (some 8) rfl rfl Tryz.func119 J0 rfl #[.pointer (some ⟨g,0,none⟩),.func (.func 121) #[] #[]] rfl J121 ?_;(with_reducible refine (token_reader_while.calls g s0_0 s0_1 121 t1 t2 t3 w0 _ ?side1 ?side2 A2.out).mono ?_);(case side1=>exact J10);(case side2=>exact J4);rintro e w4 ⟨rfl,hi,hb,hk⟩;refine ⟨_,rfl,?_⟩;have n0_:=Y0 (KeepBut.blk hk (g':=gb) (o:=.cells #[.int .i64 0,.string (⟨#[]⟩:ByteArray),.int .i64 0,.int .i64 0] 149 (0,0)) BK.out NB.out.symm J53);have n1_:=Y0 (KeepBut.trans J2 hk (.inl rfl));have n2_:=Y0 hb;have n3_:=Y0 hi;clear BK HK HB HI0;have BK:=n0_;have HK:=n1_;have HB:=n2_;have HI0:=n3_;clear n0_ n1_ n2_ n3_ hb hi hk)
   | (go_at_call 122;refine (HP.out _).mono ?_;rintro e w5 ⟨rfl,hb⟩;have n0_:=Y0 ((hb.block gb (blk_lt BK.out)).trans BK.out);have n1_:=Y0 (KeepBut.trans HK.out (KeepBut.of_below hb g none) (.inl rfl));have n2_:=Y0 (below_step HB.out hb);have n3_:=Y0 (IsS145.below HI0.out hb);clear BK HK HB HI0;have BK:=n0_;have HK:=n1_;have HB:=n2_;have HI0:=n3_;clear n0_ n1_ n2_ n3_ hb)
   | (go_at_call 97;refine (HF.out _ ?side1).mono ?_;(case side1=>exact hG.below HB.out);rintro e w6 ⟨rfl,hb⟩;have n0_:=Y0 ((hb.block gb (blk_lt BK.out)).trans BK.out);have n1_:=Y0 (KeepBut.trans HK.out (KeepBut.of_below hb g none) (.inl rfl));have n2_:=Y0 (below_step HB.out hb);have n3_:=Y0 (IsS145.below HI0.out hb);clear BK HK HB HI0;have BK:=n0_;have HK:=n1_;have HB:=n2_;have HI0:=n3_;clear n0_ n1_ n2_ n3_ hb;have z0:_=some (Value.int .i64 0):=(blk_cell BK.out 0).trans rfl;have z1:_=some (Value.string (⟨#[]⟩:ByteArray)):=(blk_cell BK.out 1).trans rfl;have z2:_=some (Value.int .i64 0):=(blk_cell BK.out 2).trans rfl;have z3:_=some (Value.int .i64 0):=(blk_cell BK.out 3).trans rfl;have y0:=blk_frozen BK.out 0;have y1:=blk_frozen BK.out 1;have y2:=blk_frozen BK.out 2;have y3:=blk_frozen BK.out 3))
  refine bodyPost_ret (results_ct rfl _ _ gb 149 #[.int .i64 1,.string t1,.int .i64 v,.int .i64 0] (0,0) _ rfl J36 Tryz.underlying149 rfl J0) rfl ?_
  exact ⟨rfl,J68,J86,J78⟩
 have hs:(⟨(Lib.itoa v).toArray⟩:ByteArray)≠t1:=fun e=>he (by rw [← e])
 rw [decide_eq_false he]
 clear he
 generalize (⟨(Lib.itoa v).toArray⟩:ByteArray)=f at *
 have q2:(f.toList == t1.toList)=false:=by rw [beq_eq_false_iff_ne];exact fun e=>hs (toList_inj e)
 have q3:decide (f=t1)=false:=decide_eq_false hs
 clear hs
 go_enter Tryz.func83,Tryz.ntmps83
 go_wp2_with (first
  | ((with_reducible refine gate_dst (N:=2) rfl ?_);refine box_event ?hg (N:=2) ?hd (cs:=#[.int .i64 0,.string (⟨#[]⟩:ByteArray),.int .i64 0,.int .i64 0]) (t:=149) ?hr ?_;(case hd=>rfl);(case hg=>rfl);(case hr=>first|(go_simp;done)|(go_simp;rfl));intro gb hg w3 hbox hb;have n0_:=Y0 (IsS145.below J10 hb);have n1_:=Y0 (KeepBut.trans J2 (KeepBut.of_below hb g none) (.inl rfl));have n2_:=Y0 (below_step J4 hb);have n3_:=Y0 hbox;have n4_:=Y0 (J67:w.heap.size≤gb);have n6_:=Y0 (J77:g≠gb);clear HI0 HK HB;have HI0:=n0_;have HK:=n1_;have HB:=n2_;have BK:=n3_;have GW:=n4_;have NB:=n6_;clear n0_ n1_ n2_ n3_ n4_ n6_;clear hb hbox hg)
  | ((with_reducible refine gate_callee (f:=119) rfl ?_);refine goesL_ (some 8) rfl rfl Tryz.func119 J0 rfl #[.pointer (some ⟨g,0,none⟩),.func (.func 121) #[] #[]] rfl J121 ?_;(with_reducible refine (token_reader_while.calls g s0_0 s0_1 121 t1 t2 t3 w0 _ ?side1 ?side2 A2.out).mono ?_);(case side1=>exact J10);(case side2=>exact J4);rintro e w4 ⟨rfl,hi,hb,hk⟩;refine ⟨_,rfl,?_⟩;have n0_:=Y0 (KeepBut.blk hk (g':=gb) (o:=.cells #[.int .i64 0,.string (⟨#[]⟩:ByteArray),.int .i64 0,.int .i64 0] 149 (0,0)) BK.out NB.out.symm J53);have n1_:=Y0 (KeepBut.trans J2 hk (.inl rfl));have n2_:=Y0 hb;have n3_:=Y0 hi;clear BK HK HB HI0;have BK:=n0_;have HK:=n1_;have HB:=n2_;have HI0:=n3_;clear n0_ n1_ n2_ n3_ hb hi hk)
  | (go_at_call 122;refine (HP.out _).mono ?_;rintro e w5 ⟨rfl,hb⟩;have n0_:=Y0 ((hb.block gb (blk_lt BK.out)).trans BK.out);have n1_:=Y0 (KeepBut.trans HK.out (KeepBut.of_below hb g none) (.inl rfl));have n2_:=Y0 (below_step HB.out hb);have n3_:=Y0 (IsS145.below HI0.out hb);clear BK HK HB HI0;have BK:=n0_;have HK:=n1_;have HB:=n2_;have HI0:=n3_;clear n0_ n1_ n2_ n3_ hb)
  | (go_at_call 97;refine (HF.out _ ?side1).mono ?_;(case side1=>exact hG.below HB.out);rintro e w6 ⟨rfl,hb⟩;have n0_:=Y0 ((hb.block gb (blk_lt BK.out)).trans BK.out);have n1_:=Y0 (KeepBut.trans HK.out (KeepBut.of_below hb g none) (.inl rfl));have n2_:=Y0 (below_step HB.out hb);have n3_:=Y0 (IsS145.below HI0.out hb);clear BK HK HB HI0;have BK:=n0_;have HK:=n1_;have HB:=n2_;have HI0:=n3_;clear n0_ n1_ n2_ n3_ hb;have z0:_=some (Value.int .i64 0):=(blk_cell BK.out 0).trans rfl;have z1:_=some (Value.string (⟨#[]⟩:ByteArray)):=(blk_cell BK.out 1).trans rfl;have z2:_=some (Value.int .i64 0):=(blk_cell BK.out 2).trans rfl;have z3:_=some (Value.int .i64 0):=(blk_cell BK.out 3).trans rfl;have y0:=blk_frozen BK.out 0;have y1:=blk_frozen BK.out 1;have y2:=blk_frozen BK.out 2;have y3:=blk_frozen BK.out 3))
 refine bodyPost_ret (results_ct rfl _ _ gb 149 #[.int .i64 1,.string t1,.int .i64 v,.int .i64 0] (0,0) _ rfl J36 Tryz.underlying149 rfl J0) rfl ?_
 exact ⟨rfl,J68,J86,J78⟩
def token_reader_one.f (s0_0:ByteArray) (s0_1:Int):Option (Int × ByteArray × Int × Int × Bool × ByteArray × Int) :=
 if s0_0.size≤140737488351232∧0≤s0_1∧s0_1 < s0_0.size then some (3,s0_0.extract s0_1.toNat (s0_1.toNat + 1),0,0,true,s0_0,s0_1 + 1) else none
set_option maxHeartbeats 2000000 in
set_option maxRecDepth 100000 in
theorem token_reader_one.calls (g:Nat) (s0_0:ByteArray) (s0_1:Int) (r1:Int) (r2:ByteArray) (r3:Int) (r4:Int) (r5:Bool) (r6:ByteArray) (r7:Int) (w0 w:World) (hI:IsS145 w0 w g s0_0 s0_1) (hB:Below w0.heap.size w0 w) (h:token_reader_one.f s0_0 s0_1=some (r1,r2,r3,r4,r5,r6,r7)) :
  Calls Tryz.prog 85 #[.pointer (some ⟨g,0,none⟩)] w fun e w'=>e = .returned (.tuple #[.agg #[.int .i64 r1,.string r2,.int .i64 r3,.int .i64 r4],.bool r5])∧IsS145 w0 w' g r6 r7∧Below w0.heap.size w0 w'∧KeepBut w w' g none:=by
 unfold token_reader_one.f at h
 split at h
 ·rename_i hc
  obtain ⟨hs,h0,h1⟩:=hc
  obtain ⟨n,rfl⟩:=Int.eq_ofNat_of_zero_le h0
  rw [Int.toNat_natCast] at h
  simp only [Option.some.injEq,Prod.mk.injEq] at h
  obtain ⟨rfl,rfl,rfl,rfl,rfl,rfl,rfl⟩:=h
  have hn1:n + 1≤s0_0.size:=by omega
  have hn2:(n:Int) + 1≤(s0_0.size:Int):=by omega
  have HI0:=Y0 hI
  have HK:=Y0 (KeepBut.refl w g none)
  have HL:=Y0 hB.size
  have HB:=Y0 hB
  have GLT:=Y0 (IsS145.lt hI)
  clear hI hB
  go_enter Tryz.func85,Tryz.ntmps85
  go_wp2_with ((with_reducible refine gate_dst (N:=2) rfl ?_);refine box_event ?hg (N:=2) ?hd (cs:=#[.int .i64 0,.string (⟨#[]⟩:ByteArray),.int .i64 0,.int .i64 0]) (t:=149) ?hr ?_;(case hd=>rfl);(case hg=>rfl);(case hr=>first|(go_simp;done)|(go_simp;rfl));intro gb hg w3 hbox hb;have n0_:=Y0 (IsS145.below J10 hb);have n1_:=Y0 (KeepBut.trans J2 (KeepBut.of_below hb g none) (.inl rfl));have n2_:=Y0 (below_step J4 hb);have n3_:=Y0 hbox;have n4_:=Y0 (J67:w.heap.size≤gb);have n6_:=Y0 ((by rw [hg];exact Nat.ne_of_lt (IsS145.lt (show IsS145 w0 _ g s0_0 n from J10))):g≠gb);clear HI0 HK HB;have HI0:=n0_;have HK:=n1_;have HB:=n2_;have BK:=n3_;have GW:=n4_;have NB:=n6_;clear n0_ n1_ n2_ n3_ n4_ n6_;clear hb hbox hg;have c0:=cellS145_0 HI0.out.1;have c1:=cellS145_1 HI0.out.1;have f1:=blk_frozen HI0.out.1 1;have hne:=NB.out;have hne':=NB.out.symm;have z0:w3.cell? ⟨gb,0,none⟩=some (.int .i64 0):=(blk_cell BK.out 0).trans rfl;have z1:w3.cell? ⟨gb,1,none⟩=some (.string (⟨#[]⟩:ByteArray)):=(blk_cell BK.out 1).trans rfl;have z2:w3.cell? ⟨gb,2,none⟩=some (.int .i64 0):=(blk_cell BK.out 2).trans rfl;have z3:w3.cell? ⟨gb,3,none⟩=some (.int .i64 0):=(blk_cell BK.out 3).trans rfl;have y0:=blk_frozen BK.out 0;have y1:=blk_frozen BK.out 1;have y2:=blk_frozen BK.out 2;have y3:=blk_frozen BK.out 3)
  have HI1:IsS145 w0 (w3.setCell ⟨g,1,none⟩ (.int .i64 ((n:Int) + 1))) g s0_0 ((n:Int) + 1):=IsS145.set_1 HI0.out _
  have HK1:KeepBut w (w3.setCell ⟨g,1,none⟩ (.int .i64 ((n:Int) + 1))) g none:=HK.out.set_ 1 _
  have HB1:Below w0.heap.size w0 (w3.setCell ⟨g,1,none⟩ (.int .i64 ((n:Int) + 1))):=below_set HB.out (IsS145.ge HI0.out)
  have BK1:(w3.setCell ⟨g,1,none⟩ (.int .i64 ((n:Int) + 1))).heap[gb]?=some (.cells #[.int .i64 0,.string (⟨#[]⟩:ByteArray),.int .i64 0,.int .i64 0] 149 (0,0)):=blk_far BK.out NB.out.symm _
  clear HI0 HK HB BK c0 c1 f1 z0 z1 z2 z3 y0 y1 y2 y3
  generalize w3.setCell ⟨g,1,none⟩ (.int .i64 ((n:Int) + 1))=W at *
  have HI0:=Y0 HI1
  have HK:=Y0 HK1
  have HB:=Y0 HB1
  have BK:=Y0 BK1
  clear HI1 HK1 HB1 BK1
  have c0:=cellS145_0 HI0.out.1
  have c1:=cellS145_1 HI0.out.1
  have z0:W.cell? ⟨gb,0,none⟩=some (.int .i64 0):=(blk_cell BK.out 0).trans rfl
  have z1:W.cell? ⟨gb,1,none⟩=some (.string (⟨#[]⟩:ByteArray)):=(blk_cell BK.out 1).trans rfl
  have z2:W.cell? ⟨gb,2,none⟩=some (.int .i64 0):=(blk_cell BK.out 2).trans rfl
  have z3:W.cell? ⟨gb,3,none⟩=some (.int .i64 0):=(blk_cell BK.out 3).trans rfl
  have y0:=blk_frozen BK.out 0
  have y1:=blk_frozen BK.out 1
  have y2:=blk_frozen BK.out 2
  have y3:=blk_frozen BK.out 3
  have hw1:IntKind.i64.wrap (n:Int)=n:=IntWalk.i64_in _ J7
  have hd1:decide ((n:Int)≤(n:Int) + 1)=true:=decide_eq_true J7
  have hd2:decide ((n:Int) + 1≤(s0_0.size:Int))=true:=decide_eq_true J7
  have hd3:decide (n + 1≤s0_0.size)=true:=decide_eq_true J7
  have hd4:decide (0≤(n:Int))=true:=decide_eq_true J7
  have hd5:decide (0≤(n:Int) + 1)=true:=decide_eq_true J7
  have hsl:∀ V:World,Sem.run Tryz.prog (Instr.slice 9 (.string s0_0) (some (.int .i64 (n:Int))) (some (.int .i64 ((n:Int) + 1))) none) V = .ok (.string (s0_0.extract n (n + 1))) V:=fun V=>by
   have e:=run_slice_string (P:=Tryz.prog) V 9 s0_0 .i64 .i64 (n:Int) ((n:Int) + 1) Tryz.underlying9 J7 J7 J7
   rw [show ((n:Int) + 1).toNat=n + 1 from by omega,Int.toNat_natCast] at e
   exact e
  clear hd1 hd2 hd3 hd4 hd5
  go_still_tail 15,J0
  clear hw1 hsl
  change wpList _ _ _ _ _ W.drew
  go_wp2
  refine bodyPost_ret (results_ct rfl _ _ gb 149 #[.int .i64 3,.string (s0_0.extract n (n + 1)),.int .i64 0,.int .i64 0] (0,0) _ rfl (by (with_reducible repeat first|apply Y11|apply Y13|apply Y12);refine blk_put (cs:=#[.int .i64 3,.string (s0_0.extract n (n + 1)),.int .i64 0,.int .i64 0]) ?_ 3 _ rfl;(with_reducible repeat first|apply Y11|apply Y13|apply Y12);refine blk_put (cs:=#[.int .i64 3,.string (s0_0.extract n (n + 1)),.int .i64 0,.int .i64 0]) ?_ 2 _ rfl;(with_reducible repeat first|apply Y11|apply Y13|apply Y12);refine blk_put (cs:=#[.int .i64 3,.string (⟨#[]⟩:ByteArray),.int .i64 0,.int .i64 0]) ?_ 1 _ rfl;(with_reducible repeat first|apply Y11|apply Y13|apply Y12);refine blk_put (cs:=#[.int .i64 0,.string (⟨#[]⟩:ByteArray),.int .i64 0,.int .i64 0]) ?_ 0 _ rfl;(with_reducible repeat first|apply Y11|apply Y13|apply Y12);exact BK.out) Tryz.underlying149 rfl J0) rfl ?_
  exact ⟨rfl,J68,J86,J78⟩
 ·cases h
abbrev TokR:=Int × ByteArray × Int × Int × Bool × ByteArray × Int
def tokOne (k:Nat) (q:Int) (x:ByteArray) (at0:Int):Option TokR :=
 if q=0 then token_reader_name.f x at0 else if q=1 then token_reader_num.f x at0 else if q=2 then token_reader_str.f k x at0 else token_reader_one.f x at0
def tokLoop:Nat→ByteArray→ByteArray→List S149→Int→Option (List S149 × Int × Int)
 | 0,_,_,_,_=>none
 | k + 1,s,x,acc,at0=>if at0 < (s.size:Int) then (if 0≤at0 then (if ofK (bt s at0)=4 then some ([],at0,4)
   else (tokOne k (ofK (bt s at0)) x at0).bind fun r=>if r.2.2.2.2.1=false then some ([],at0,4)
    else if acc.length=1000 then some ([],at0,2)
    else (token_reader_skip.f k r.2.2.2.2.2.1 r.2.2.2.2.2.2).bind fun z=>tokLoop k s z.1 (acc++[⟨r.1,r.2.1,r.2.2.1,at0⟩]) z.2) else none)
  else some (acc,s.size,0)
def tokAll (k:Nat) (s:ByteArray):Option (List S149 × Int × Int) :=
 if (s.size:Int) > 5000 then some ([],0,2) else (token_reader_skip.f k s 0).bind fun z=>tokLoop k s z.1 [] z.2
theorem chkInt (b:Bool) (q:Int) (w:World):(Instr.checkKey b 10000 3 (.int .i64 q)).run Tryz.prog w = .ok () w:=by
 have h3:=run_underlying (w:=w) Tryz.underlying3
 show (Instr.checkKey b (9999 + 1) 3 (.int .i64 q)).run Tryz.prog w = .ok () w
 unfold Instr.checkKey
 simp [h3]
def beginM:Obj:=.map #[⟨.int .i64 0,.func (.func 82) #[] #[],0⟩,⟨.int .i64 1,.func (.func 83) #[] #[],1⟩,⟨.int .i64 2,.func (.func 84) #[] #[],2⟩,⟨.int .i64 3,.func (.func 85) #[] #[],3⟩] 4
def beginF (q:Int):Nat:=if q=0 then 82 else if q=1 then 83 else if q=2 then 84 else 85
theorem lookup_yes (w:World) (r:Nat) (q:Int) (h0:0≤q) (h3:q≤3) (hb:w.heap[r]?=some beginM) :
  Sem.run Tryz.prog (Instr.lookup 143 (.map (some r)) (.int .i64 q) true) w = .ok (.tuple #[.func (.func (beginF q)) #[] #[],.bool true]) w:=by
 have h53:=run_underlying (w:=w) Tryz.underlying143
 have hi:=run_underlying (w:=w) Tryz.underlying3
 unfold beginM at hb
 obtain rfl|rfl|rfl|rfl:q=0∨q=1∨q=2∨q=3:=by omega
 all_goals simp [Instr.lookup,chkInt,Instr.findKey,Instr.findNow,Instr.sameNow,h53,hi,MapKept.run_getObj_map hb,Result.andThen,beginF]
theorem lookup_no (w:World) (r:Nat) (hb:w.heap[r]?=some beginM) :
  Sem.run Tryz.prog (Instr.lookup 143 (.map (some r)) (.int .i64 4) true) w = .ok (.tuple #[.nilFunc,.bool false]) w:=by
 have h53:=run_underlying (w:=w) Tryz.underlying143
 have hi:=run_underlying (w:=w) Tryz.underlying3
 have hz:(zeroValue 140).run Tryz.prog w = .ok .nilFunc w:=by kernel_rfl
 unfold beginM at hb
 simp [Instr.lookup,chkInt,Instr.findKey,Instr.findNow,Instr.sameNow,h53,hi,MapKept.run_getObj_map hb,Result.andThen,hz]
theorem set_push {α:Type} (a:Array α) (x y:α):(a.push x).setIfInBounds a.size y=a.push y:=by
 apply Array.ext
 ·simp
 ·intro i h1 h2
  rw [Array.getElem_setIfInBounds]
  ·split
   ·subst_vars;simp
   ·rename_i hne
    have hlt:i < a.size:=by simp at h2;omega
    rw [Array.getElem_push_lt hlt,Array.getElem_push_lt hlt]
  ·simp at h2 ⊢;omega
theorem heap_set_new (w:World) (o o':Obj):ChangeMaps.setBlock (w.alloc o) w.heap.size o'=w.alloc o':=by
 unfold ChangeMaps.setBlock
 have e:(w.alloc o).heap.setIfInBounds w.heap.size o'=(w.alloc o').heap:=set_push w.heap o o'
 rw [e]
 rfl
theorem set_0 (w:World) (v:Value):Sem.run Tryz.prog (Instr.mapUpdate 143 (.map (some w.heap.size)) (.int .i64 0) v) (w.alloc (.map #[] 0)) = .ok () (w.alloc (.map #[⟨.int .i64 0,v,0⟩] 1)):=by
 have hb:(w.alloc (.map #[] 0)).heap[w.heap.size]?=some (.map #[] 0):=heap_alloc_new w _
 have h53:=run_underlying (w:=w.alloc (.map #[] 0)) Tryz.underlying143
 have hi:=run_underlying (w:=w.alloc (.map #[] 0)) Tryz.underlying3
 simp [Instr.mapUpdate,chkInt,Instr.findKey,Instr.findNow,Instr.sameNow,h53,hi,MapKept.run_getObj_map hb,MapKept.run_setObj_map _ hb,Result.andThen]
 exact heap_set_new w (.map #[] 0) _
theorem set_1 (w:World) (v0 v:Value):Sem.run Tryz.prog (Instr.mapUpdate 143 (.map (some w.heap.size)) (.int .i64 1) v) (w.alloc (.map #[⟨.int .i64 0,v0,0⟩] 1)) = .ok () (w.alloc (.map #[⟨.int .i64 0,v0,0⟩,⟨.int .i64 1,v,1⟩] 2)):=by
 have hb:(w.alloc (.map #[⟨.int .i64 0,v0,0⟩] 1)).heap[w.heap.size]?=some (.map #[⟨.int .i64 0,v0,0⟩] 1):=heap_alloc_new w _
 have h53:=run_underlying (w:=w.alloc (.map #[⟨.int .i64 0,v0,0⟩] 1)) Tryz.underlying143
 have hi:=run_underlying (w:=w.alloc (.map #[⟨.int .i64 0,v0,0⟩] 1)) Tryz.underlying3
 simp [Instr.mapUpdate,chkInt,Instr.findKey,Instr.findNow,Instr.sameNow,h53,hi,MapKept.run_getObj_map hb,MapKept.run_setObj_map _ hb,Result.andThen]
 exact heap_set_new w (.map #[⟨.int .i64 0,v0,0⟩] 1) _
theorem set_2 (w:World) (v0 v1 v:Value):Sem.run Tryz.prog (Instr.mapUpdate 143 (.map (some w.heap.size)) (.int .i64 2) v) (w.alloc (.map #[⟨.int .i64 0,v0,0⟩,⟨.int .i64 1,v1,1⟩] 2)) = .ok () (w.alloc (.map #[⟨.int .i64 0,v0,0⟩,⟨.int .i64 1,v1,1⟩,⟨.int .i64 2,v,2⟩] 3)):=by
 have hb:(w.alloc (.map #[⟨.int .i64 0,v0,0⟩,⟨.int .i64 1,v1,1⟩] 2)).heap[w.heap.size]?=some (.map #[⟨.int .i64 0,v0,0⟩,⟨.int .i64 1,v1,1⟩] 2):=heap_alloc_new w _
 have h53:=run_underlying (w:=w.alloc (.map #[⟨.int .i64 0,v0,0⟩,⟨.int .i64 1,v1,1⟩] 2)) Tryz.underlying143
 have hi:=run_underlying (w:=w.alloc (.map #[⟨.int .i64 0,v0,0⟩,⟨.int .i64 1,v1,1⟩] 2)) Tryz.underlying3
 simp [Instr.mapUpdate,chkInt,Instr.findKey,Instr.findNow,Instr.sameNow,h53,hi,MapKept.run_getObj_map hb,MapKept.run_setObj_map _ hb,Result.andThen]
 exact heap_set_new w (.map #[⟨.int .i64 0,v0,0⟩,⟨.int .i64 1,v1,1⟩] 2) _
theorem set_3 (w:World) (v0 v1 v2 v:Value):Sem.run Tryz.prog (Instr.mapUpdate 143 (.map (some w.heap.size)) (.int .i64 3) v) (w.alloc (.map #[⟨.int .i64 0,v0,0⟩,⟨.int .i64 1,v1,1⟩,⟨.int .i64 2,v2,2⟩] 3)) = .ok () (w.alloc (.map #[⟨.int .i64 0,v0,0⟩,⟨.int .i64 1,v1,1⟩,⟨.int .i64 2,v2,2⟩,⟨.int .i64 3,v,3⟩] 4)):=by
 have hb:(w.alloc (.map #[⟨.int .i64 0,v0,0⟩,⟨.int .i64 1,v1,1⟩,⟨.int .i64 2,v2,2⟩] 3)).heap[w.heap.size]?=some (.map #[⟨.int .i64 0,v0,0⟩,⟨.int .i64 1,v1,1⟩,⟨.int .i64 2,v2,2⟩] 3):=heap_alloc_new w _
 have h53:=run_underlying (w:=w.alloc (.map #[⟨.int .i64 0,v0,0⟩,⟨.int .i64 1,v1,1⟩,⟨.int .i64 2,v2,2⟩] 3)) Tryz.underlying143
 have hi:=run_underlying (w:=w.alloc (.map #[⟨.int .i64 0,v0,0⟩,⟨.int .i64 1,v1,1⟩,⟨.int .i64 2,v2,2⟩] 3)) Tryz.underlying3
 simp [Instr.mapUpdate,chkInt,Instr.findKey,Instr.findNow,Instr.sameNow,h53,hi,MapKept.run_getObj_map hb,MapKept.run_setObj_map _ hb,Result.andThen]
 exact heap_set_new w (.map #[⟨.int .i64 0,v0,0⟩,⟨.int .i64 1,v1,1⟩,⟨.int .i64 2,v2,2⟩] 3) _
theorem own_ne_map {W:World} {base n size:Nat} {e:TypeId} {v:Value} {xs:List Value} (h:W.ownsRow base e size v n xs) {m c:Nat} {es:Array MapEntry} (hm:W.heap[m]?=some (.map es c)):some m≠v.ownBlock:=by
 rcases h.2 with ⟨hv,_⟩|⟨g,cap,cur,hv,_,hc,_⟩
 ·subst hv;simp [Value.ownBlock]
 ·subst hv
  intro e
  simp only [Value.ownBlock,Option.some.injEq] at e
  subst e
  rw [hc] at hm
  cases hm
theorem R_ne_map {α:Type} {d:Kd α} {e:TypeId} {W:World} {base:Nat} {ok:Nat→Prop} {v:Value} {xs:List α} (h:d.R e W base ok v xs) {m c:Nat} {es:Array MapEntry} (hm:W.heap[m]?=some (.map es c)):some m≠v.ownBlock:=by
 obtain ⟨h0,inner,hown,hr⟩:=h
 exact own_ne_map hown hm
theorem begin_ne {α:Type} {d:Kd α} {e:TypeId} {W:World} {base:Nat} {ok:Nat→Prop} {v:Value} {xs:List α} (h:d.R e W base ok v xs) {m:Nat} (hm:W.heap[m]?=some beginM):some m≠v.ownBlock:=R_ne_map h hm
theorem begin_far {w:World} {m:Nat} {p:Addr} (h:w.heap[m]?=some beginM) (hne:m≠p.block) (u:Value):(w.setCell p u).heap[m]?=some beginM:=(Below.heap_setCell w p u m hne).trans h
theorem tokOne_calls (k:Nat) (q:Int) (h0:0≤q) (h3:q≤3) (g:Nat) (x:ByteArray) (at0:Int) (a b c:Int) (t:ByteArray) (ok:Bool) (x':ByteArray) (at':Int) (w0 W:World) (hI:IsS145 w0 W g x at0) (hB:Below w0.heap.size w0 W) (hG:GInv w0) (h:tokOne k q x at0=some (a,t,b,c,ok,x',at')) :
  Calls Tryz.prog (beginF q) #[.pointer (some ⟨g,0,none⟩)] W fun e w'=>e = .returned (.tuple #[.agg #[.int .i64 a,.string t,.int .i64 b,.int .i64 c],.bool ok])∧IsS145 w0 w' g x' at'∧Below w0.heap.size w0 w'∧KeepBut W w' g none:=by
 obtain rfl|rfl|rfl|rfl:q=0∨q=1∨q=2∨q=3:=by omega
 ·exact token_reader_name.calls g x at0 a t b c ok x' at' w0 W hI hB h
 ·exact token_reader_num.calls g x at0 a t b c ok x' at' w0 W hI hB hG h
 ·exact token_reader_str.calls k g x at0 a t b c ok x' at' w0 W hI hB h
 ·exact token_reader_one.calls g x at0 a t b c ok x' at' w0 W hI hB h
theorem begin_enter (q:Int) (h0:0≤q) (h3:q≤3) (args:Array Value) (w:World):(callFunc (beginF q) args).run Tryz.prog w = .ok (.enter (beginF q) args) w:=by
 obtain rfl|rfl|rfl|rfl:q=0∨q=1∨q=2∨q=3:=by omega
 ·exact run_enter Tryz.func82 J0 J0 _ _
 ·exact run_enter Tryz.func83 J0 J0 _ _
 ·exact run_enter Tryz.func84 J0 J0 _ _
 ·exact run_enter Tryz.func85 J0 J0 _ _
theorem ofK_range (c:Int):0≤ofK c∧ofK c≤4:=by
 unfold ofK
 repeat' split
 all_goals omega
set_option maxHeartbeats 1600000 in
set_option maxRecDepth 100000 in
theorem tokAll_walk (k:Nat) (a0:ByteArray) (r1:List S149) (r2 r3:Int) (w:World) (hG:GInv w) (h:tokAll k a0=some (r1,r2,r3)) :
  Calls Tryz.prog 36 #[.string a0] w fun e w'=>∃ v0_:Value,e = .returned (.tuple #[v0_,.int .i64 r2,.int .i64 r3])∧Kd.R k149 149 w' w.heap.size (fun _=>True) v0_ r1∧Below w.heap.size w w':=by
 unfold tokAll at h
 split at h
 ·rename_i hbig
  simp only [Option.some.injEq,Prod.mk.injEq] at h
  obtain ⟨rfl,rfl,rfl⟩:=h
  have b1:decide (5000 < (a0.size:Int))=true:=decide_eq_true hbig
  have b2:decide (5000 < a0.size)=true:=decide_eq_true J7
  clear hbig
  go_enter Tryz.func36,Tryz.ntmps36
  go_wp2
  go_ret3
  exact ⟨_,rfl,Kd.R_nil _ _ _ _ _,Below.refl _ _⟩
 ·rename_i hbig
  have b1:decide (5000 < (a0.size:Int))=false:=decide_eq_false hbig
  have b2:decide (5000 < a0.size)=false:=decide_eq_false J7
  clear hbig
  obtain ⟨⟨x,at0⟩,A0,h⟩:=Option.bind_eq_some_iff.mp h
  have AS:=Y0 A0
  have AL:=Y0 h
  clear A0 h
  go_enter Tryz.func36,Tryz.ntmps36
  have mk:=fun W=>@run_makeMap Tryz.prog W
  have s0:=set_0 w
  have s1:=set_1 w
  have s2:=set_2 w
  have s3:=set_3 w
  have HM:=Y0 (heap_alloc_new w beginM)
  have HB:=Y0 (below_alloc (Below.refl w.heap.size w) beginM)
  have hsz:(w.alloc beginM).heap.size=w.heap.size + 1:=by simp
  have HI:=Y0 (IsS145.new w (w.alloc beginM) a0 0 HB.out)
  have HM2:=Y0 (((below_alloc (Below.refl (w.alloc beginM).heap.size (w.alloc beginM)) (.cells #[.string a0,.int .i64 0] 145)).block w.heap.size (by rw [hsz];omega)).trans HM.out)
  have HB2:=Y0 (below_alloc HB.out (.cells #[.string a0,.int .i64 0] 145))
  rw [hsz] at HI
  clear HM HB hsz
  have hgm:w.heap.size + 1≠w.heap.size:=by omega
  go_wp2_with (go_at_call 86;refine (token_reader_skip.calls k (w.heap.size + 1) a0 0 x at0 w _ HI.out HB2.out AS.out).mono ?_;rintro e w1 ⟨rfl,hi,hb,hk⟩;have n0_:=Y0 (KeepBut.blk hk HM2.out (Ne.symm hgm) J53);clear HM2 HB2 HI AS hk;have HM:=n0_;have HB:=Y0 hb;have HI:=Y0 hi;clear n0_ hb hi)
  clear mk s0 s1 s2 s3
  generalize w.heap.size + 1=g at *
  go_loopg [7] k (fun kq v7 W=>∃ (x:ByteArray) (acc:List S149) (p:Int),Aside0 (tokLoop kq a0 x acc p=some (r1,r2,r3))∧Aside0 (Kd.R k149 149 W w.heap.size (fun _=>True) v7 acc)∧Aside0 (IsS145 w W g x p)∧Aside0 (W.heap[w.heap.size]?=some beginM)∧Aside0 (Below w.heap.size w W)∧Aside0 (acc.length≤1000))
  case atStart=>exact ⟨x,[],at0,AL,⟨Kd.R_nil _ _ _ _ _⟩,HI,HM,HB,⟨J53⟩⟩
  case round =>
   clear AL HI HM HB
   obtain ⟨x,acc,p,HA,HO,HI,HM,HB,HL⟩:=hrel
   cases gk with
   | zero=>exact absurd HA.out (by simp [tokLoop])
   | succ k1 =>
    have H:=HA.out
    clear HA
    simp only [tokLoop] at H
    have c0:=cellS145_0 HI.out.1
    have c1:=cellS145_1 HI.out.1
    by_cases hlt:p < (a0.size:Int)
    ·rw [if_pos hlt] at H
     by_cases hp0:0≤p
     ·rw [if_pos hp0] at H
      obtain ⟨n,rfl⟩:=Int.eq_ofNat_of_zero_le hp0
      have hn:n < a0.size:=by omega
      have d1:decide ((n:Int) < (a0.size:Int))=true:=decide_eq_true hlt
      have d2:decide (n < a0.size)=true:=decide_eq_true hn
      have hbt:bt a0 n=(a0[n].toNat:Int):=by simp [bt,hn]
      rw [hbt] at H
      have hq:=ofK_range (a0[n].toNat:Int)
      have HQ:=Y0 (fun W=>token_of.calls 5 (a0[n].toNat:Int) _ W (token_of_eq 5 J7 _))
      generalize ofK (a0[n].toNat:Int)=q at *
      clear hbt hlt hp0
      by_cases hq4:q=4
      ·subst hq4
       rw [if_pos rfl] at H
       simp only [Option.some.injEq,Prod.mk.injEq] at H
       obtain ⟨rfl,rfl,rfl⟩:=H
       have hlk:∀ m,Sem.run Tryz.prog (Instr.lookup 143 (.map (some w.heap.size)) (.int .i64 4) true) (wr.drewN m) = .ok (.tuple #[.nilFunc,.bool false]) (wr.drewN m):=fun m=>lookup_no _ _ HM.out
       clear hq
       go_wp2_with (go_at_call 87;refine (HQ.out _).mono ?_;rintro e w2 ⟨rfl,⟨nd,rfl⟩⟩)
       go_ret3
       exact ⟨_,rfl,Kd.R_nil _ _ _ _ _,J99⟩
      ·rw [if_neg hq4] at H
       have hlk:∀ m,Sem.run Tryz.prog (Instr.lookup 143 (.map (some w.heap.size)) (.int .i64 q) true) (wr.drewN m) = .ok (.tuple #[.func (.func (beginF q)) #[] #[],.bool true]) (wr.drewN m):=fun m=>lookup_yes _ _ q hq.1 J7 HM.out
       have hcf:=fun args W=>begin_enter q hq.1 J7 args W
       obtain ⟨⟨ka,ta,na,ca,ok,x',p'⟩,A1,H⟩:=Y17.mp H
       have HC:=Y0 (fun W hI hB=>tokOne_calls k1 q hq.1 J7 g x n ka na ca ta ok x' p' w W hI hB hG A1)
       generalize beginF q=F at *
       clear hq hq4 A1
       have HH:=Y0 H
       clear H
       go_wp2_with (go_at_call 87;refine (HQ.out _).mono ?_;rintro e w2 ⟨rfl,⟨nd,rfl⟩⟩)
       have HI1:=Y0 (show IsS145 w (wr.drewN nd) g x n from HI.out)
       have HM1:=Y0 (show (wr.drewN nd).heap[w.heap.size]?=some beginM from HM.out)
       have HB1:=Y0 (show Below w.heap.size w (wr.drewN nd) from J99)
       have HO1:=Y0 (show Kd.R k149 149 (wr.drewN nd) w.heap.size (fun _=>True) u7 acc from by (with_reducible repeat (first|apply Y5|apply Y6|apply Y7));exact HO.out)
       clear HI HM HB HO c0 c1 hlk hcf HQ
       refine (HC.out _ HI1.out HB1.out).mono ?_
       rintro e w3 ⟨rfl,hi,hb,hk⟩
       have HO:=Y0 (Kd.R_mono (Kd.R_keep (IsS145.apart HI1.out HO1.out J11) hk (fun _ h=>h.2)) (fun _ _=>trivial):Kd.R k149 149 w3 w.heap.size (fun _=>True) u7 acc)
       have HM:=Y0 (KeepBut.blk hk HM1.out (Ne.symm hgm) J53)
       have HB:=Y0 hb
       have HI:=Y0 hi
       clear HI1 HM1 HB1 HO1 HC hi hb hk
       cases ok with
       | false =>
        have H:=HH.out
        rw [if_pos rfl] at H
        simp only [Option.some.injEq,Prod.mk.injEq] at H
        obtain ⟨rfl,rfl,rfl⟩:=H
        go_wp2_with ((with_reducible refine gate_dst (N:=11) rfl ?_);refine box_event ?hg (N:=11) ?hd (cs:=#[.int .i64 0,.string (⟨#[]⟩:ByteArray),.int .i64 0,.int .i64 0]) (t:=149) ?hr ?_;(case hd=>rfl);(case hg=>rfl);(case hr=>first|(go_simp;done)|(go_simp;rfl));intro gb hg w4 hbox hb;have n0_:=Y0 (IsS145.below HI.out hb);have n1_:=Y0 (Kd.R_below (Kd.R_elderB HO.out gb (Nat.le_of_eq hg.symm)) hb);have n2_:=Y0 (below_step HB.out hb);have n3_:=Y0 hbox;have n4_:=Y0 (J156:w.heap.size≤gb);have n5_:=Y0 ((hb.block _ (blk_lt HM.out)).trans HM.out);have n6_:=Y0 (J146:g≠gb);have n7_:=Y0 (J147:w.heap.size≠gb);clear HI HO HB HM;have HI:=n0_;have HO:=n1_;have HB:=n2_;have BK:=n3_;have GW:=n4_;have HM:=n5_;have NB:=n6_;have NM:=n7_;clear n0_ n1_ n2_ n3_ n4_ n5_ n6_ n7_;clear hb hbox hg;have z0:_=some (Value.int .i64 0):=(blk_cell BK.out 0).trans rfl;have z1:_=some (Value.string (⟨#[]⟩:ByteArray)):=(blk_cell BK.out 1).trans rfl;have z2:_=some (Value.int .i64 0):=(blk_cell BK.out 2).trans rfl;have z3:_=some (Value.int .i64 0):=(blk_cell BK.out 3).trans rfl;have y0:=blk_frozen BK.out 0;have y1:=blk_frozen BK.out 1;have y2:=blk_frozen BK.out 2;have y3:=blk_frozen BK.out 3;obtain ⟨Ao,co,eo⟩:=Kd.R_slice HO.out;subst eo)
        go_ret3
        exact ⟨_,rfl,Kd.R_nil _ _ _ _ _,J111⟩
       | true =>
        have H:=HH.out
        rw [if_neg J53] at H
        clear HH
        by_cases hl:acc.length=1000
        ·rw [if_pos hl] at H
         simp only [Option.some.injEq,Prod.mk.injEq] at H
         obtain ⟨rfl,rfl,rfl⟩:=H
         have e1:((acc.length:Int) == 1000)=true:=by simp [hl]
         clear hl
         go_wp2_with ((with_reducible refine gate_dst (N:=11) rfl ?_);refine box_event ?hg (N:=11) ?hd (cs:=#[.int .i64 0,.string (⟨#[]⟩:ByteArray),.int .i64 0,.int .i64 0]) (t:=149) ?hr ?_;(case hd=>rfl);(case hg=>rfl);(case hr=>first|(go_simp;done)|(go_simp;rfl));intro gb hg w4 hbox hb;have n0_:=Y0 (IsS145.below HI.out hb);have n1_:=Y0 (Kd.R_below (Kd.R_elderB HO.out gb (Nat.le_of_eq hg.symm)) hb);have n2_:=Y0 (below_step HB.out hb);have n3_:=Y0 hbox;have n4_:=Y0 (J156:w.heap.size≤gb);have n5_:=Y0 ((hb.block _ (blk_lt HM.out)).trans HM.out);have n6_:=Y0 (J146:g≠gb);have n7_:=Y0 (J147:w.heap.size≠gb);clear HI HO HB HM;have HI:=n0_;have HO:=n1_;have HB:=n2_;have BK:=n3_;have GW:=n4_;have HM:=n5_;have NB:=n6_;have NM:=n7_;clear n0_ n1_ n2_ n3_ n4_ n5_ n6_ n7_;clear hb hbox hg;have z0:_=some (Value.int .i64 0):=(blk_cell BK.out 0).trans rfl;have z1:_=some (Value.string (⟨#[]⟩:ByteArray)):=(blk_cell BK.out 1).trans rfl;have z2:_=some (Value.int .i64 0):=(blk_cell BK.out 2).trans rfl;have z3:_=some (Value.int .i64 0):=(blk_cell BK.out 3).trans rfl;have y0:=blk_frozen BK.out 0;have y1:=blk_frozen BK.out 1;have y2:=blk_frozen BK.out 2;have y3:=blk_frozen BK.out 3;obtain ⟨Ao,co,eo⟩:=Kd.R_slice HO.out;subst eo)
         go_ret3
         exact ⟨_,rfl,Kd.R_nil _ _ _ _ _,J111⟩
        ·rw [if_neg hl] at H
         obtain ⟨⟨x2,p2⟩,A2,H⟩:=Y17.mp H
         have e1:((acc.length:Int) == 1000)=false:=by rw [beq_eq_false_iff_ne];omega
         have HL2:=Y0 (show acc.length < 1000 by have:=HL.out;omega)
         have AS:=Y0 A2
         have AL:=Y0 H
         clear hl A2 H HL
         go_upto_region 16 with ((with_reducible refine gate_dst (N:=11) rfl ?_);refine box_event ?hg (N:=11) ?hd (cs:=#[.int .i64 0,.string (⟨#[]⟩:ByteArray),.int .i64 0,.int .i64 0]) (t:=149) ?hr ?_;(case hd=>rfl);(case hg=>rfl);(case hr=>first|(go_simp;done)|(go_simp;rfl));intro gb hg w4 hbox hb;have n0_:=Y0 (IsS145.below HI.out hb);have n1_:=Y0 (Kd.R_below (Kd.R_elderB HO.out gb (Nat.le_of_eq hg.symm)) hb);have n2_:=Y0 (below_step HB.out hb);have n3_:=Y0 hbox;have n4_:=Y0 (J156:w.heap.size≤gb);have n5_:=Y0 ((hb.block _ (blk_lt HM.out)).trans HM.out);have n6_:=Y0 (J146:g≠gb);have n7_:=Y0 (J147:w.heap.size≠gb);clear HI HO HB HM;have HI:=n0_;have HO:=n1_;have HB:=n2_;have BK:=n3_;have GW:=n4_;have HM:=n5_;have NB:=n6_;have NM:=n7_;clear n0_ n1_ n2_ n3_ n4_ n5_ n6_ n7_;clear hb hbox hg;have z0:_=some (Value.int .i64 0):=(blk_cell BK.out 0).trans rfl;have z1:_=some (Value.string (⟨#[]⟩:ByteArray)):=(blk_cell BK.out 1).trans rfl;have z2:_=some (Value.int .i64 0):=(blk_cell BK.out 2).trans rfl;have z3:_=some (Value.int .i64 0):=(blk_cell BK.out 3).trans rfl;have y0:=blk_frozen BK.out 0;have y1:=blk_frozen BK.out 1;have y2:=blk_frozen BK.out 2;have y3:=blk_frozen BK.out 3;obtain ⟨Ao,co,eo⟩:=Kd.R_slice HO.out;subst eo)
         go_upto_region 18 with (fail)
         go_upto_region 19 with (fail)
         have HI2:IsS145 w (((((w4.setCell ⟨gb,0,none⟩ (.int .i64 ka)).setCell ⟨gb,1,none⟩ (.string ta)).setCell ⟨gb,2,none⟩ (.int .i64 na)).setCell ⟨gb,3,none⟩ (.int .i64 ca)).setCell ⟨gb,3,none⟩ (.int .i64 (n:Int))) g x' p':=(by repeat (first|(with_reducible first|exact HI.out|apply IsS145.alloc|apply IsS145.drewN|apply IsS145.drew|apply IsS145.set_0|apply IsS145.set_1|refine IsS145.far ?_ NB.out _)|exact HI.out))
         have HM2:(((((w4.setCell ⟨gb,0,none⟩ (.int .i64 ka)).setCell ⟨gb,1,none⟩ (.string ta)).setCell ⟨gb,2,none⟩ (.int .i64 na)).setCell ⟨gb,3,none⟩ (.int .i64 ca)).setCell ⟨gb,3,none⟩ (.int .i64 (n:Int))).heap[w.heap.size]?=some beginM:=begin_far (begin_far (begin_far (begin_far (begin_far HM.out NM.out _) NM.out _) NM.out _) NM.out _) NM.out _
         have HB2:Below w.heap.size w (((((w4.setCell ⟨gb,0,none⟩ (.int .i64 ka)).setCell ⟨gb,1,none⟩ (.string ta)).setCell ⟨gb,2,none⟩ (.int .i64 na)).setCell ⟨gb,3,none⟩ (.int .i64 ca)).setCell ⟨gb,3,none⟩ (.int .i64 (n:Int))):=J111
         have HO2:Kd.R k149 149 (((((w4.setCell ⟨gb,0,none⟩ (.int .i64 ka)).setCell ⟨gb,1,none⟩ (.string ta)).setCell ⟨gb,2,none⟩ (.int .i64 na)).setCell ⟨gb,3,none⟩ (.int .i64 ca)).setCell ⟨gb,3,none⟩ (.int .i64 (n:Int))) w.heap.size (fun k_=>k_≠gb) (.slice Ao acc.length co) acc:=Kd.R_mono (Kd.R_far (p:=⟨gb,3,none⟩) (Kd.R_far (p:=⟨gb,3,none⟩) (Kd.R_far (p:=⟨gb,2,none⟩) (Kd.R_far (p:=⟨gb,1,none⟩) (Kd.R_far (p:=⟨gb,0,none⟩) HO.out (fun _ h=>h.2) _) (fun _ h=>h.2) _) (fun _ h=>h.2) _) (fun _ h=>h.2) _) (fun _ h=>h.2) _) (fun _ h=>h.2)
         have BK2:(((((w4.setCell ⟨gb,0,none⟩ (.int .i64 ka)).setCell ⟨gb,1,none⟩ (.string ta)).setCell ⟨gb,2,none⟩ (.int .i64 na)).setCell ⟨gb,3,none⟩ (.int .i64 ca)).setCell ⟨gb,3,none⟩ (.int .i64 (n:Int))).heap[gb]?=some (.cells #[.int .i64 ka,.string ta,.int .i64 na,.int .i64 n] 149 (0,0)):=by
          refine blk_put (cs:=#[.int .i64 ka,.string ta,.int .i64 na,.int .i64 ca]) ?_ 3 _ rfl
          refine blk_put (cs:=#[.int .i64 ka,.string ta,.int .i64 na,.int .i64 0]) ?_ 3 _ rfl
          refine blk_put (cs:=#[.int .i64 ka,.string ta,.int .i64 0,.int .i64 0]) ?_ 2 _ rfl
          refine blk_put (cs:=#[.int .i64 ka,.string (⟨#[]⟩:ByteArray),.int .i64 0,.int .i64 0]) ?_ 1 _ rfl
          refine blk_put (cs:=#[.int .i64 0,.string (⟨#[]⟩:ByteArray),.int .i64 0,.int .i64 0]) ?_ 0 _ rfl
          exact BK.out
         clear HI HM HB HO BK z0 z1 z2 z3 y0 y1 y2 y3
         generalize (((((w4.setCell ⟨gb,0,none⟩ (.int .i64 ka)).setCell ⟨gb,1,none⟩ (.string ta)).setCell ⟨gb,2,none⟩ (.int .i64 na)).setCell ⟨gb,3,none⟩ (.int .i64 ca)).setCell ⟨gb,3,none⟩ (.int .i64 (n:Int)))=WW at *
         have HI:=Y0 HI2
         have HM:=Y0 HM2
         have HB:=Y0 HB2
         have HO:=Y0 HO2
         have BK:=Y0 BK2
         clear HI2 HM2 HB2 HO2 BK2
         have l0:WW.cell? ⟨gb,0,none⟩=some (.int .i64 ka):=(blk_cell BK.out 0).trans rfl
         have l1:WW.cell? ⟨gb,1,none⟩=some (.string ta):=(blk_cell BK.out 1).trans rfl
         have l2:WW.cell? ⟨gb,2,none⟩=some (.int .i64 na):=(blk_cell BK.out 2).trans rfl
         have l3:WW.cell? ⟨gb,3,none⟩=some (.int .i64 n):=(blk_cell BK.out 3).trans rfl
         go_wp2_with (first|((with_reducible refine gate_builtin (b:=.append) (xs:=#[.tmp 65,.tmp 67]) rfl ?_);at_builtin;refine Kd.R_append k149 (w0:=w) w.heap.size rfl (.tmp 65) (.tmp 67) 71 149 (.agg #[(.int .i64 0),(.string ⟨#[]⟩),(.int .i64 0),(.int .i64 0)]) 40 rfl Tryz.underlying71 info149 rfl J11 J7 (.slice Ao acc.length co) acc (⟨ka,ta,na,n⟩:S149) [.int .i64 ka,.string ta,.int .i64 na,.int .i64 n] (fun k_=>k_≠gb) (fun _=>False) rfl J139 ?aP (fun _ hk=>hk.elim) ?aF ?aO ?aB ?aS ?aL ?_;(case aP=>exact k149_mkM _ _ _ (⟨ka,ta,na,n⟩:S149));(case aB=>exact J99);(case aF=>exact fun k_ hk=>by have:=blk_lt BK.out;omega);(case aO=>(with_reducible repeat (first|apply Y5|apply Y6|apply Y7));exact HO.out);(case aS=>exact below_size J99);(case aL=>have:=HL2.out;omega);intro v1 w5 ho hb hg hat;have n0_:=Y0 (IsS145.grown J70 hg (IsS145.own_ne HI.out HO.out J11));have n1_:=Y0 (blk_grown HM.out hg (begin_ne HO.out HM.out));have n2_:=Y0 hb;have n3_:=Y0 (Kd.R_mono (ok':=fun _=>True) ho (fun _ _=>trivial));clear HI HM HB HO BK l0 l1 l2 l3;have HI:=n0_;have HM:=n1_;have HB:=n2_;have HO:=n3_;clear n0_ n1_ n2_ n3_ ho hb hg hat)|(go_at_call 86;refine (token_reader_skip.calls k1 g x' p' x2 p2 w _ HI.out HB.out AS.out).mono ?_;rintro e w6 ⟨rfl,hi,hb,hk⟩;have n0_:=Y0 (KeepBut.blk hk HM.out (Ne.symm hgm) J53);have n1_:=Y0 (Kd.R_mono (ok':=fun _=>True) (Kd.R_keep (IsS145.apart HI.out HO.out J11) hk (fun _ h=>h.2)) (fun _ _=>trivial));clear HM HB HI HO AS hk;have HM:=n0_;have HO:=n1_;have HB:=Y0 hb;have HI:=Y0 hi;clear n0_ n1_ hb hi))
         go_roundg k1
         case measure=>omega
         case rel=>exact ⟨x2,_,p2,AL,HO,HI,HM,HB,⟨by have:=HL2.out;simp;omega⟩⟩
     ·rw [if_neg hp0] at H;cases H
    ·rw [if_neg hlt] at H
     simp only [Option.some.injEq,Prod.mk.injEq] at H
     obtain ⟨rfl,rfl,rfl⟩:=H
     have d1:decide (p < (a0.size:Int))=false:=decide_eq_false hlt
     clear hlt
     go_wp2
     go_ret3
     exact ⟨_,rfl,HO.out,HB.out⟩
abbrev bl (s:ByteArray):List UInt8:=s.data.toList
theorem bl_length (s:ByteArray):(bl s).length=s.size:=by simp [bl]
theorem bt_nat (s:ByteArray) (i:Nat) (h:i < s.size):bt s i=(s[i].toNat:Int):=by simp [bt,h]
theorem drop_bl (s:ByteArray) (i:Nat) (h:i < s.size):(bl s).drop i=s[i] :: (bl s).drop (i + 1):=by
 have h2:i < (bl s).length:=by rw [bl_length];exact h
 rw [List.drop_eq_getElem_cons h2]
 rfl
theorem extract_bl (s:ByteArray) (i j:Nat):bl (s.extract i j)=((bl s).drop i).take (j - i):=by
 simp [bl,ByteArray.data_extract,List.extract_eq_take_drop]
theorem mk_bl (s:ByteArray):(⟨(bl s).toArray⟩:ByteArray)=s:=by simp [bl]
theorem toList_bl (s:ByteArray):s.toList=bl s:=ByteArray.toList_eq s
theorem eq_of_bl {a b:ByteArray} (h:bl a=bl b):a=b:=by rw [← mk_bl a,← mk_bl b,h]
theorem wrap_small (n:Int) (h0 : -1000000000000000000≤n) (h1:n≤1000000000000000000):wrap64 n=n:=by unfold wrap64;omega
theorem index_mem (l:List UInt8) (c:UInt8):Lib.indexByte l c=if c ∈ l then ((l.takeWhile (· != c)).length:Int) else -1:=by
 induction l with
 | nil=>simp [Lib.indexByte]
 | cons b l ih =>
  unfold Lib.indexByte
  by_cases hb:b=c
  ·subst hb;simp
  ·have hb2:c≠b:=fun e=>hb e.symm
   simp only [beq_iff_eq,hb,if_false,ih,List.mem_cons,hb2,false_or]
   by_cases hm:c ∈ l
   ·simp only [hm,if_true,List.takeWhile_cons,bne_iff_ne,ne_eq,hb,not_false_eq_true,if_true]
    rw [if_neg J7]
    simp
   ·simp [hm]
theorem index_ge (l:List UInt8) (c:UInt8):0≤Lib.indexByte l c↔c ∈ l:=by
 rw [index_mem];split <;> simp_all
theorem index_at (l:List UInt8) (s:ByteArray) (i:Nat) (h:i < s.size):strings_IndexByte.f ⟨l.toArray⟩ (bt s i)=some (Lib.indexByte l s[i]):=by
 unfold strings_IndexByte.f
 rw [bt_nat s i h]
 simp
def blankB (c:UInt8):Bool:=c == 32 || c == 9 || c == 10 || c == 13
def skipN:Bool→List UInt8→Nat
 | _,[]=>0
 | true,b :: r=>1 + skipN (b != 10) r
 | false,b :: r=>if blankB b then 1 + skipN false r else if b=47∧r.head?=some 47 then 1 + skipN true r else 0
theorem skipN_le (c:Bool) (l:List UInt8):skipN c l≤l.length:=by
 induction l generalizing c with
 | nil=>simp [skipN]
 | cons b r ih =>
  cases c
  ·unfold skipN
   split
   ·have:=ih false;simp;omega
   ·split
    ·have:=ih true;simp;omega
    ·simp
  ·unfold skipN;have:=ih (b != 10);simp only [List.length_cons];omega
theorem skipN_line (l:List UInt8):skipN true l=(l.takeWhile (· != 10)).length + skipN false (l.drop (l.takeWhile (· != 10)).length):=by
 induction l with
 | nil=>simp [skipN]
 | cons b r ih =>
  by_cases hb:b=10
  ·subst hb;simp [skipN,blankB]
  ·have:(b != 10)=true:=by simp [hb]
   rw [skipN,this,ih]
   simp [List.takeWhile_cons,this]
   omega
theorem takeWhile_all {α:Type} (p:α→Bool) (l:List α) (h:∀ x ∈ l,p x=true):l.takeWhile p=l:=by
 induction l with
 | nil=>rfl
 | cons a r ih=>rw [List.takeWhile_cons,if_pos (h a J53),ih (fun x hx=>h x (by simp [hx]))]
theorem cut_line (a:ByteArray):(cutAt a 10).1.size=((bl a).takeWhile (· != 10)).length:=by
 unfold cutAt
 rw [show Lib.indexByte a.data.toList 10=Lib.indexByte (bl a) 10 from rfl,index_mem]
 by_cases hm:(10:UInt8) ∈ bl a
 ·rw [if_pos hm,if_neg J7]
  have:((bl a).takeWhile (· != 10)).length≤(bl a).length:=(List.takeWhile_sublist _).length_le
  rw [bl_length] at this
  simp only [Int.toNat_natCast,ByteArray.size_extract]
  omega
 ·rw [if_neg hm,if_pos J7]
  have:(bl a).takeWhile (· != 10)=bl a:=by
   apply takeWhile_all
   intro x hx
   simp only [bne_iff_ne,ne_eq]
   rintro rfl
   exact hm hx
  rw [this,bl_length]
theorem rest_eq (s:ByteArray) (i:Nat) (h:i≤s.size):token_reader_rest.f s i=some (s.extract i s.size,s,(i:Int)):=by
 unfold token_reader_rest.f
 rw [if_pos J7,if_pos J7]
 simp
theorem rest_bl (s:ByteArray) (i:Nat) (h:i≤s.size):bl (s.extract i s.size)=(bl s).drop i:=by
 rw [extract_bl,List.take_of_length_le]
 simp [bl_length]
theorem prefix_eq (a:ByteArray):strings_HasPrefix.f a ⟨#[47,47]⟩=some (decide ((bl a).take 2=[47,47])):=by
 have e2:(⟨#[47,47]⟩:ByteArray).size=2:=rfl
 unfold strings_HasPrefix.f stringslite_HasPrefix.f
 rw [e2]
 by_cases h:(a.size:Int) ≥ ((2:Nat):Int)
 ·rw [if_pos h,if_pos J7,if_pos J7]
  simp only [Option.bind_some,toList_bl,extract_bl]
  congr 1
  simp [bl]
  rw [Bool.eq_iff_iff];simp
 ·rw [if_neg h]
  simp only [Option.bind_some]
  congr 1
  symm
  rw [decide_eq_false_iff_not]
  intro e
  have:=congrArg List.length e
  rw [List.length_take,bl_length] at this
  simp at this
  omega
theorem skip_l0 (s:ByteArray) (hs:s.size≤1000000000000):∀ (d k i:Nat),i≤s.size→s.size - i≤d→d < k→token_reader_skip.l0 k s i=some (s,((i + skipN false ((bl s).drop i):Nat):Int)):=by
 intro d
 induction d with
 | zero =>
  intro k i hi hd hk
  obtain ⟨k,rfl⟩:∃ m,k=m + 1:=⟨k - 1,J7⟩
  obtain rfl:i=s.size:=by omega
  simp only [token_reader_skip.l0]
  rw [if_neg J7,List.drop_of_length_le J117]
  simp [skipN]
 | succ d ih =>
  intro k i hi hd hk
  obtain ⟨k,rfl⟩:∃ m,k=m + 1:=⟨k - 1,J7⟩
  by_cases hlt:i < s.size
  ·simp only [token_reader_skip.l0]
   rw [if_pos J7,if_pos J7,index_at _ s i hlt]
   simp only [Option.bind_some,ge_iff_le,index_ge]
   rw [drop_bl s i hlt]
   by_cases hb:blankB s[i]=true
   ·have hm:s[i] ∈ ([32,9,10,13]:List UInt8):=by unfold blankB at hb;simpa [or_assoc] using hb
    rw [if_pos hm,wrap_small _ J7 J7,show ((i:Int) + 1)=((i + 1:Nat):Int) from by omega,ih k (i + 1) J7 J7 J7]
    simp only [skipN,hb,if_true]
    congr 2
    omega
   ·have hm:¬ s[i] ∈ ([32,9,10,13]:List UInt8):=by unfold blankB at hb;simpa [or_assoc] using hb
    rw [if_neg hm,rest_eq s i hi]
    simp only [Option.bind_some,prefix_eq,rest_bl s i hi,rest_eq s i hi]
    rw [drop_bl s i hlt]
    by_cases hc:s[i]=47∧((bl s).drop (i + 1)).head?=some 47
    ·obtain ⟨h1,h2⟩:=hc
     obtain ⟨r,hr⟩:∃ r,(bl s).drop (i + 1)=47 :: r:=by
      cases hl:(bl s).drop (i + 1) with
      | nil=>rw [hl] at h2;cases h2
      | cons a r=>rw [hl] at h2;simp at h2;exact ⟨r,by rw [h2]⟩
     have hcut:strings_Cut.f (s.extract i s.size) (⟨#[10]⟩:ByteArray)=some (cutAt (s.extract i s.size) 10):=by
      unfold strings_Cut.f
      rw [if_pos (by simp only [ByteArray.size_extract];omega)]
     have hln:(cutAt (s.extract i s.size) 10).1.size=1 + ((47 :: r:List UInt8).takeWhile (· != 10)).length:=by
      rw [cut_line,rest_bl s i hi,drop_bl s i hlt,h1,hr]
      simp [List.takeWhile_cons]
      omega
     have hle:((47 :: r:List UInt8).takeWhile (· != 10)).length≤s.size - i - 1:=by
      have a1:=(List.takeWhile_sublist (l:=(47 :: r:List UInt8)) (· != 10)).length_le
      have a2:=congrArg List.length hr
      rw [List.length_drop,bl_length] at a2
      omega
     rw [h1,hr]
     simp only [List.take_succ_cons,List.take_zero,decide_true,if_true,hcut,Option.bind_some,hln]
     rw [wrap_small _ J7 J7,show ((i:Int) + ((1 + ((47 :: r:List UInt8).takeWhile (· != 10)).length:Nat):Int))=((i + (1 + ((47 :: r:List UInt8).takeWhile (· != 10)).length):Nat):Int) from by omega,ih k _ J7 J7 J7]
     have e:skipN false (47 :: 47 :: r)=1 + skipN true (47 :: r):=by simp [skipN,blankB]
     rw [e,skipN_line]
     have e2:(bl s).drop (i + (1 + ((47 :: r:List UInt8).takeWhile (· != 10)).length))=(47 :: r:List UInt8).drop ((47 :: r:List UInt8).takeWhile (· != 10)).length:=by
      rw [← hr,List.drop_drop]
      congr 1
      omega
     rw [e2]
     congr 2
     omega
    ·have hn:¬ (List.take 2 (s[i] :: (bl s).drop (i + 1))=[47,47]):=by
      intro e
      apply hc
      cases hl:(bl s).drop (i + 1) with
      | nil=>rw [hl] at e;simp at e
      | cons a r=>rw [hl] at e;simp at e;exact ⟨e.1,by simp [e.2]⟩
     simp only [hn,decide_false]
     rw [if_neg J53]
     unfold skipN
     rw [if_neg hb,if_neg hc]
     simp
  ·obtain rfl:i=s.size:=by omega
   simp only [token_reader_skip.l0]
   rw [if_neg J7,List.drop_of_length_le J117]
   simp [skipN]
theorem skip_eq (s:ByteArray) (hs:s.size≤1000000000000) (k i:Nat) (hi:i≤s.size) (hk:s.size - i < k):token_reader_skip.f k s i=some (s,((i + skipN false ((bl s).drop i):Nat):Int)) :=
 skip_l0 s hs (s.size - i) k i hi (Nat.le_refl _) hk
theorem bt_get (a:ByteArray) (j:Nat) (c:UInt8) (h:(bl a)[j]?=some c):bt a j=(c.toNat:Int):=by
 obtain ⟨hj,e⟩:=List.getElem?_eq_some_iff.mp h
 rw [bl_length] at hj
 rw [bt_nat a j hj,← e]
 rfl
theorem stopAt_eq (p:Int→Bool) (s:ByteArray):∀ n i,i≤s.size→s.size - i≤n→stopAt p s n i=i + (((bl s).drop i).takeWhile (fun c=>p (c.toNat:Int))).length:=by
 intro n
 induction n with
 | zero =>
  intro i hi hn
  obtain rfl:i=s.size:=by omega
  rw [stopAt,List.drop_of_length_le J117]
  simp
 | succ n ih =>
  intro i hi hn
  unfold stopAt
  by_cases hlt:i < s.size
  ·rw [if_pos hlt,drop_bl s i hlt,bt_nat s i hlt,List.takeWhile_cons]
   by_cases hp:p (s[i].toNat:Int)=true
   ·rw [if_pos hp,if_pos hp,ih (i + 1) J7 J7]
    simp;omega
   ·rw [if_neg hp,if_neg hp];simp
  ·rw [if_neg hlt,List.drop_of_length_le J117]
   simp
def nameU (c:UInt8):Bool:=nameB (c.toNat:Int)
def numU (c:UInt8):Bool:=numB (c.toNat:Int)
def runN (p:UInt8→Bool):List UInt8→Nat
 | []=>0
 | _ :: r=>1 + (r.takeWhile p).length
theorem runN_le (p:UInt8→Bool) (l:List UInt8):runN p l≤l.length:=by
 cases l with
 | nil=>simp [runN]
 | cons a r=>have:=(List.takeWhile_sublist (l:=r) p).length_le;simp only [runN,List.length_cons];omega
theorem while_text (p:Int→Bool) (s:ByteArray) (i:Nat) (hi:i < s.size) :
  stopAt p s s.size (i + 1)=i + runN (fun c=>p (c.toNat:Int)) ((bl s).drop i)∧s.extract i (stopAt p s s.size (i + 1))=⟨(((bl s).drop i).take (runN (fun c=>p (c.toNat:Int)) ((bl s).drop i))).toArray⟩:=by
 have e:stopAt p s s.size (i + 1)=i + runN (fun c=>p (c.toNat:Int)) ((bl s).drop i):=by
  rw [stopAt_eq p s s.size (i + 1) J7 J7,drop_bl s i hi]
  simp only [runN];omega
 refine ⟨e,?_⟩
 apply eq_of_bl
 rw [e,extract_bl]
 simp [bl]
theorem name_eq (s:ByteArray) (hs:s.size≤1000000000000) (i:Nat) (hi:i < s.size) :
  token_reader_name.f s i=some (0,⟨(((bl s).drop i).take (runN nameU ((bl s).drop i))).toArray⟩,0,0,true,s,((i + runN nameU ((bl s).drop i):Nat):Int)):=by
 obtain ⟨h1,h2⟩:=while_text nameB s i hi
 unfold token_reader_name.f token_reader_while.f
 rw [if_pos ⟨J7,J7,J7⟩,if_pos rfl,Int.toNat_natCast]
 simp only [Option.bind_some,h2]
 rw [h1]
 rfl
theorem num_eq (s:ByteArray) (hs:s.size≤1000000000000) (i:Nat) (hi:i < s.size) :
  token_reader_num.f s i=some (1,⟨(((bl s).drop i).take (runN numU ((bl s).drop i))).toArray⟩,numV (((bl s).drop i).take (runN numU ((bl s).drop i))),0,numOk (((bl s).drop i).take (runN numU ((bl s).drop i))),s,((i + runN numU ((bl s).drop i):Nat):Int)):=by
 obtain ⟨h1,h2⟩:=while_text numB s i hi
 unfold token_reader_num.f token_reader_while.f
 rw [if_pos ⟨J7,J7,J7⟩,if_neg J11,if_pos rfl,Int.toNat_natCast]
 simp only [Option.bind_some,h2]
 rw [h1]
 rfl
theorem one_eq (s:ByteArray) (hs:s.size≤1000000000000) (i:Nat) (hi:i < s.size) :
  token_reader_one.f s i=some (3,⟨#[s[i]]⟩,0,0,true,s,((i + 1:Nat):Int)):=by
 unfold token_reader_one.f
 rw [if_pos ⟨J7,J7,J7⟩,Int.toNat_natCast]
 have e:s.extract i (i + 1)=⟨#[s[i]]⟩:=by
  apply eq_of_bl
  rw [extract_bl,drop_bl s i hi,show i + 1 - i=1 from by omega]
  simp [bl]
 rw [e]
 simp
def hexesL:List UInt8:=[48,49,50,51,52,53,54,55,56,57,97,98,99,100,101,102]
def hexI (c:UInt8):Int:=Lib.indexByte hexesL c
theorem hexI_range (c:UInt8) : -1≤hexI c∧hexI c≤15:=by
 have:=indexByte_range hexesL c
 unfold hexI
 have e:hexesL.length=16:=rfl
 rw [e] at this
 omega
theorem hex_bits:∀ a b:Fin 16,(Go.bits .or .i64 (wrap64 ((a.val:Int) * 16)) (Go.bits .and .i64 (b.val:Int) 15)) % 256=(a.val:Int) * 16 + b.val:=by decide +kernel
def markL:List UInt8→Option (UInt8 × Nat)
 | []=>none
 | d :: r=>if d=34 then some (34,1) else if d=92 then some (92,1) else if d=110 then some (10,1)
  else if d=120 then match r with
   | a :: b :: _=>if 0≤hexI a∧0≤hexI b then some (UInt8.ofNat ((hexI a).toNat * 16 + (hexI b).toNat),3) else none
   | _=>none
  else none
theorem mark_eq (s:ByteArray) (hs:s.size≤1000000000000) (k i:Nat) (hi:i≤s.size) (hk:0 < k) :
  (∀ m n,markL ((bl s).drop i)=some (m,n)→token_reader_mark.f k s i=some ((m.toNat:Int),true,s,((i + n:Nat):Int))) ∧
  (markL ((bl s).drop i)=none→∃ v p,token_reader_mark.f k s i=some (v,false,s,p)):=by
 obtain ⟨k,rfl⟩:∃ m,k=m + 1:=⟨k - 1,J7⟩
 unfold token_reader_mark.f
 rw [rest_eq s i hi]
 have hb:=rest_bl s i hi
 have hz:(s.extract i s.size).size=((bl s).drop i).length:=by rw [← bl_length,hb]
 simp only [Option.bind_some,toList_bl,hb]
 generalize s.extract i s.size=x at *
 cases hl:(bl s).drop i with
 | nil=>simp [markL]
 | cons d r =>
  rw [hl] at hb hz
  have hx:0 < (x.size:Int):=by rw [hz];simp
  have b0:bt x 0=(d.toNat:Int):=bt_get x 0 d (by rw [hb];rfl)
  rw [if_neg J53,if_pos hx]
  have hI:strings_IndexByte.f (⟨#[34,92,110]⟩:ByteArray) (bt x 0)=some (Lib.indexByte [34,92,110] d):=by
   unfold strings_IndexByte.f;rw [b0];simp
  rw [hI]
  simp only [Option.bind_some]
  by_cases d34:d=34
  ·subst d34
   have e:Lib.indexByte [34,92,110] 34=0:=by decide
   rw [e,wrap_small _ J7 J7]
   have e2:bt (⟨#[34,92,10]⟩:ByteArray) 0=34:=by decide
   simp [markL,e2]
  ·by_cases d92:d=92
   ·subst d92
    have e:Lib.indexByte [34,92,110] 92=1:=by decide
    rw [e,wrap_small _ J7 J7]
    have e2:bt (⟨#[34,92,10]⟩:ByteArray) 1=92:=by decide
    simp [markL,e2]
   ·by_cases d110:d=110
    ·subst d110
     have e:Lib.indexByte [34,92,110] 110=2:=by decide
     rw [e,wrap_small _ J7 J7]
     have e2:bt (⟨#[34,92,10]⟩:ByteArray) 2=10:=by decide
     simp [markL,e2]
    ·have e:¬ (Lib.indexByte [34,92,110] d ≥ 0):=by rw [ge_iff_le,index_ge];simp [d34,d92,d110]
     rw [if_neg e]
     by_cases d120:d=120
     ·subst d120
      have b0':(bt x 0 != 120)=false:=by rw [b0];decide
      rw [b0']
      match r,hl,hb,hz with
      | [],hl,hb,hz =>
       rw [if_pos (by rw [hz];simp)]
       simp [markL,token_reader_mark.j0]
      | [a],hl,hb,hz =>
       rw [if_pos (by rw [hz];simp)]
       simp [markL,token_reader_mark.j0]
      | a :: b :: r',hl,hb,hz =>
       rw [if_neg (by rw [hz];simp;omega)]
       have b1:bt x 1=(a.toNat:Int):=bt_get x 1 a (by rw [hb];rfl)
       have b2:bt x 2=(b.toNat:Int):=bt_get x 2 b (by rw [hb];rfl)
       have h1:strings_IndexByte.f (⟨#[48,49,50,51,52,53,54,55,56,57,97,98,99,100,101,102]⟩:ByteArray) (bt x 1)=some (hexI a):=by
        unfold strings_IndexByte.f;rw [b1];simp [hexI,hexesL]
       have h2:strings_IndexByte.f (⟨#[48,49,50,51,52,53,54,55,56,57,97,98,99,100,101,102]⟩:ByteArray) (bt x 2)=some (hexI b):=by
        unfold strings_IndexByte.f;rw [b2];simp [hexI,hexesL]
       simp only [token_reader_mark.j0,h1,h2,Option.bind_some]
       rw [if_neg J53,if_pos (by rw [hz];simp;omega),if_pos (by rw [hz];simp;omega),wrap_small ((i:Int) + 3) J7 J7]
       have ra:=hexI_range a
       have rb:=hexI_range b
       by_cases ha:0≤hexI a
       ·rw [if_pos ha]
        by_cases hb2:0≤hexI b
        ·have em:markL (120 :: a :: b :: r')=some (UInt8.ofNat ((hexI a).toNat * 16 + (hexI b).toNat),3):=by simp [markL,ha,hb2]
         rw [em]
         have hv:=hex_bits ⟨(hexI a).toNat,J7⟩ ⟨(hexI b).toNat,J7⟩
         simp only [Int.toNat_of_nonneg ha,Int.toNat_of_nonneg hb2] at hv
         rw [hv]
         refine ⟨fun m n hmn=>?_,fun h=>by cases h⟩
         simp only [Option.some.injEq,Prod.mk.injEq] at hmn
         obtain ⟨rfl,rfl⟩:=hmn
         have e3:((UInt8.ofNat ((hexI a).toNat * 16 + (hexI b).toNat)).toNat:Int)=hexI a * 16 + hexI b:=by
          rw [UInt8.toNat_ofNat',Nat.mod_eq_of_lt J7];omega
         rw [e3]
         simp [hb2]
        ·have em:markL (120 :: a :: b :: r')=none:=by simp [markL,hb2]
         rw [em]
         refine ⟨fun m n h=>J145,fun _=>⟨Go.bits .or .i64 (wrap64 (hexI a * 16)) (Go.bits .and .i64 (hexI b) 15) % 256,(i:Int) + 3,?_⟩⟩
         rw [show decide (hexI b ≥ 0)=false from decide_eq_false J7]
       ·rw [if_neg ha]
        have em:markL (120 :: a :: b :: r')=none:=by simp [markL,ha]
        rw [em]
        exact ⟨fun m n h=>J145,fun _=>⟨_,_,rfl⟩⟩
     ·have em:markL (d :: r)=none:=by simp [markL,d34,d92,d110,d120]
      rw [em]
      have b0':(bt x 0 != 120)=true:=by
       rw [b0,bne_iff_ne]
       intro e
       apply d120
       rw [← UInt8.toNat_inj]
       have:d.toNat=120:=by omega
       rw [this];rfl
      rw [b0']
      refine ⟨fun m n h=>J145,fun _=>⟨0,i,?_⟩⟩
      split
      ·simp [token_reader_mark.j0]
      ·simp [token_reader_mark.j0]
def strL:Nat→List UInt8→Option (List UInt8 × Nat)
 | 0,_=>none
 | _ + 1,[]=>none
 | f + 1,c :: r=>if c=34 then some ([],1) else if c=92 then (match markL r with
   | none=>none
   | some (m,n)=>(strL f (r.drop n)).map fun x=>(m :: x.1,n + 1 + x.2))
  else if c < 32 then none else if c=127 then none else (strL f r).map fun x=>(c :: x.1,x.2 + 1)
theorem markL_le (l:List UInt8) (m:UInt8) (n:Nat) (h:markL l=some (m,n)):1≤n∧n≤l.length:=by
 cases l with
 | nil=>cases h
 | cons d r =>
  simp only [markL] at h
  by_cases h1:d=34
  ·rw [if_pos h1] at h;simp only [Option.some.injEq,Prod.mk.injEq] at h;obtain ⟨_,rfl⟩:=h;simp
  ·rw [if_neg h1] at h
   by_cases h2:d=92
   ·rw [if_pos h2] at h;simp only [Option.some.injEq,Prod.mk.injEq] at h;obtain ⟨_,rfl⟩:=h;simp
   ·rw [if_neg h2] at h
    by_cases h3:d=110
    ·rw [if_pos h3] at h;simp only [Option.some.injEq,Prod.mk.injEq] at h;obtain ⟨_,rfl⟩:=h;simp
    ·rw [if_neg h3] at h
     by_cases h4:d=120
     ·rw [if_pos h4] at h
      match r,h with
      | [],h=>cases h
      | [a],h=>cases h
      | a :: b :: r',h =>
       simp only at h
       split at h
       ·simp only [Option.some.injEq,Prod.mk.injEq] at h;obtain ⟨_,rfl⟩:=h;simp
       ·cases h
     ·rw [if_neg h4] at h;cases h
theorem strL_le:∀ (f:Nat) (l t:List UInt8) (n:Nat),strL f l=some (t,n)→1≤n∧n≤l.length∧t.length + 1≤n:=by
 intro f
 induction f with
 | zero=>intro l t n h;simp [strL] at h
 | succ f ih =>
  intro l t n h
  cases l with
  | nil=>simp [strL] at h
  | cons c r =>
   unfold strL at h
   split at h
   ·simp only [Option.some.injEq,Prod.mk.injEq] at h;obtain ⟨rfl,rfl⟩:=h;simp
   ·split at h
    ·split at h
     ·cases h
     ·rename_i m j hm
      obtain ⟨h1,h2⟩:=markL_le r m j hm
      obtain ⟨⟨t',n'⟩,h3,h4⟩:=Option.map_eq_some_iff.mp h
      obtain ⟨g1,g2,g3⟩:=ih _ _ _ h3
      simp only [Prod.mk.injEq] at h4
      obtain ⟨rfl,rfl⟩:=h4
      rw [List.length_drop] at g2
      simp only [List.length_cons]
      omega
    ·split at h
     ·cases h
     ·split at h
      ·cases h
      ·obtain ⟨⟨t',n'⟩,h3,h4⟩:=Option.map_eq_some_iff.mp h
       obtain ⟨g1,g2,g3⟩:=ih _ _ _ h3
       simp only [Prod.mk.injEq] at h4
       obtain ⟨rfl,rfl⟩:=h4
       simp only [List.length_cons]
       omega
def numsOf (l:List UInt8):List Int:=l.map fun c=>(c.toNat:Int)
theorem strOf_nums (l:List UInt8):strOfNums (numsOf l)=⟨l.toArray⟩:=by
 unfold strOfNums numsOf
 congr 2
 rw [List.map_map]
 conv=>rhs;rw [← List.map_id l]
 apply List.map_congr_left
 intro c _
 simp
theorem str_l0 (s:ByteArray) (hs:s.size≤1000000000000):∀ (d k i:Nat) (acc:List UInt8) (f:Nat),i≤s.size→s.size - i≤d→d < k→d < f→acc.length≤i →
  (∀ t n,strL f ((bl s).drop i)=some (t,n)→token_reader_str.l0 k (numsOf acc) s i=some (2,⟨(acc++t).toArray⟩,0,0,true,s,((i + n:Nat):Int))) ∧
  (strL f ((bl s).drop i)=none→∃ p,token_reader_str.l0 k (numsOf acc) s i=some (0,⟨#[]⟩,0,0,false,s,p)):=by
 intro d
 induction d with
 | zero =>
  intro k i acc f hi hd hk hf ha
  obtain ⟨k,rfl⟩:∃ m,k=m + 1:=⟨k - 1,J7⟩
  obtain ⟨f,rfl⟩:∃ m,f=m + 1:=⟨f - 1,J7⟩
  obtain rfl:i=s.size:=by omega
  simp only [token_reader_str.l0]
  rw [if_neg J7,List.drop_of_length_le J117]
  simp [strL]
 | succ d ih =>
  intro k i acc f hi hd hk hf ha
  obtain ⟨k,rfl⟩:∃ m,k=m + 1:=⟨k - 1,J7⟩
  obtain ⟨f,rfl⟩:∃ m,f=m + 1:=⟨f - 1,J7⟩
  by_cases hlt:i < s.size
  ·have hw:wrap64 ((i:Int) + 1)=((i + 1:Nat):Int):=by rw [wrap_small _ J7 J7];omega
   have hal:(numsOf acc).length < 140737488355328:=by unfold numsOf;rw [List.length_map];omega
   simp only [token_reader_str.l0]
   rw [if_pos J7,if_pos J7,drop_bl s i hlt,bt_nat s i hlt,hw]
   generalize hc:s[i]=c
   have e34:((c.toNat:Int)=34)↔c=34:=by rw [← UInt8.toNat_inj];show _↔c.toNat=34;omega
   have e92:((c.toNat:Int)=92)↔c=92:=by rw [← UInt8.toNat_inj];show _↔c.toNat=92;omega
   have e127:((c.toNat:Int)=127)↔c=127:=by rw [← UInt8.toNat_inj];show _↔c.toNat=127;omega
   have e32:((c.toNat:Int) < 32)↔c < 32:=by rw [UInt8.lt_iff_toNat_lt];show _↔c.toNat < 32;omega
   simp only [e34,e92,e127,e32]
   unfold strL
   by_cases h34:c=34
   ·rw [if_pos h34,if_pos h34]
    refine ⟨fun t n h=>?_,fun h=>by cases h⟩
    simp only [Option.some.injEq,Prod.mk.injEq] at h
    obtain ⟨rfl,rfl⟩:=h
    rw [strOf_nums,List.append_nil]
   ·rw [if_neg h34,if_neg h34]
    by_cases h92:c=92
    ·rw [if_pos h92,if_pos h92]
     obtain ⟨m1,m2⟩:=mark_eq s hs k (i + 1) J7 J7
     cases hm:markL ((bl s).drop (i + 1)) with
     | none =>
      obtain ⟨v,p,hv⟩:=m2 hm
      rw [hv]
      exact ⟨fun t n h=>J145,fun _=>⟨p,J53⟩⟩
     | some x =>
      obtain ⟨m,n⟩:=x
      rw [m1 m n hm]
      simp only [Option.bind_some,if_true]
      rw [if_pos hal]
      obtain ⟨h1,h2⟩:=markL_le _ m n hm
      rw [List.length_drop,bl_length] at h2
      have hacc:numsOf acc++[(m.toNat:Int)]=numsOf (acc++[m]):=by simp [numsOf]
      rw [hacc]
      obtain ⟨g1,g2⟩:=ih k (i + 1 + n) (acc++[m]) f J7 J7 J7 J7 J129
      rw [List.drop_drop]
      constructor
      ·intro t n' h
       obtain ⟨⟨t',n2⟩,h3,h4⟩:=Option.map_eq_some_iff.mp h
       simp only [Prod.mk.injEq] at h4
       obtain ⟨rfl,rfl⟩:=h4
       rw [g1 t' n2 h3,show i + 1 + n + n2=i + (n + 1 + n2) from by omega]
       simp only [List.append_assoc,List.singleton_append]
      ·intro h
       exact g2 (Option.map_eq_none_iff.mp h)
    ·rw [if_neg h92,if_neg h92]
     by_cases h32:c < 32
     ·rw [if_pos h32,if_pos h32]
      exact ⟨fun t n h=>J145,fun _=>⟨_,rfl⟩⟩
     ·rw [if_neg h32,if_neg h32]
      by_cases h127:c=127
      ·rw [if_pos h127,if_pos h127]
       exact ⟨fun t n h=>J145,fun _=>⟨_,rfl⟩⟩
      ·rw [if_neg h127,if_neg h127,if_pos hal]
       have hacc:numsOf acc++[(c.toNat:Int)]=numsOf (acc++[c]):=by simp [numsOf]
       rw [hacc]
       obtain ⟨g1,g2⟩:=ih k (i + 1) (acc++[c]) f J7 J7 J7 J7 J129
       constructor
       ·intro t n' h
        obtain ⟨⟨t',n2⟩,h3,h4⟩:=Option.map_eq_some_iff.mp h
        simp only [Prod.mk.injEq] at h4
        obtain ⟨rfl,rfl⟩:=h4
        rw [g1 t' n2 h3,show i + 1 + n2=i + (n2 + 1) from by omega]
        simp only [List.append_assoc,List.singleton_append]
       ·intro h
        exact g2 (Option.map_eq_none_iff.mp h)
  ·obtain rfl:i=s.size:=by omega
   simp only [token_reader_str.l0]
   rw [if_neg J7,List.drop_of_length_le J117]
   simp [strL]
def lex1:List UInt8→Option (Int × List UInt8 × Int × Nat)
 | []=>none
 | b :: r=>if ofK (b.toNat:Int)=4 then none
  else if ofK (b.toNat:Int)=0 then some (0,(b :: r).take (runN nameU (b :: r)),0,runN nameU (b :: r))
  else if ofK (b.toNat:Int)=1 then (if numOk ((b :: r).take (runN numU (b :: r)))=true then some (1,(b :: r).take (runN numU (b :: r)),numV ((b :: r).take (runN numU (b :: r))),runN numU (b :: r)) else none)
  else if ofK (b.toNat:Int)=2 then (strL (r.length + 1) r).map fun x=>(2,x.1,0,x.2 + 1)
  else some (3,[b],0,1)
theorem lex1_cons (b:UInt8) (r:List UInt8):lex1 (b :: r)=if ofK (b.toNat:Int)=4 then none
  else if ofK (b.toNat:Int)=0 then some (0,(b :: r).take (runN nameU (b :: r)),0,runN nameU (b :: r))
  else if ofK (b.toNat:Int)=1 then (if numOk ((b :: r).take (runN numU (b :: r)))=true then some (1,(b :: r).take (runN numU (b :: r)),numV ((b :: r).take (runN numU (b :: r))),runN numU (b :: r)) else none)
  else if ofK (b.toNat:Int)=2 then (strL (r.length + 1) r).map fun x=>(2,x.1,0,x.2 + 1)
  else some (3,[b],0,1):=rfl
theorem lex1_le (l:List UInt8) (kd:Int) (t:List UInt8) (v:Int) (n:Nat) (h:lex1 l=some (kd,t,v,n)):1≤n∧n≤l.length:=by
 cases l with
 | nil=>cases h
 | cons b r =>
  have hr1:1≤runN nameU (b :: r):=by simp [runN]
  have hr2:1≤runN numU (b :: r):=by simp [runN]
  have hr3:=runN_le nameU (b :: r)
  have hr4:=runN_le numU (b :: r)
  rw [lex1_cons] at h
  split at h
  ·cases h
  ·split at h
   ·simp only [Option.some.injEq,Prod.mk.injEq] at h;obtain ⟨_,_,_,rfl⟩:=h;exact ⟨hr1,hr3⟩
   ·split at h
    ·split at h
     ·simp only [Option.some.injEq,Prod.mk.injEq] at h;obtain ⟨_,_,_,rfl⟩:=h;exact ⟨hr2,hr4⟩
     ·cases h
    ·split at h
     ·obtain ⟨⟨t',n'⟩,h3,h4⟩:=Option.map_eq_some_iff.mp h
      simp only [Prod.mk.injEq] at h4
      obtain ⟨_,_,_,rfl⟩:=h4
      have:=strL_le _ _ _ _ h3
      simp only [List.length_cons];omega
     ·simp only [Option.some.injEq,Prod.mk.injEq] at h;obtain ⟨_,_,_,rfl⟩:=h;simp
theorem tokOne_eq (s:ByteArray) (hs:s.size≤1000000000000) (k i:Nat) (hi:i < s.size) (hk:s.size - i < k) :
  (∀ kd t v n,lex1 ((bl s).drop i)=some (kd,t,v,n)→¬ ofK (bt s i)=4∧tokOne k (ofK (bt s i)) s i=some (kd,⟨t.toArray⟩,v,0,true,s,((i + n:Nat):Int))) ∧
  (lex1 ((bl s).drop i)=none→ofK (bt s i)=4∨∃ a b c d p,tokOne k (ofK (bt s i)) s i=some (a,b,c,d,false,s,p)):=by
 have hn:=name_eq s hs i hi
 have hu:=num_eq s hs i hi
 have ho:=one_eq s hs i hi
 have hw:wrap64 ((i:Int) + 1)=((i + 1:Nat):Int):=by rw [wrap_small _ J7 J7];omega
 have hst:token_reader_str.f k s i=token_reader_str.l0 k (numsOf []) s ((i + 1:Nat):Int):=by unfold token_reader_str.f;rw [hw];rfl
 have hl:=str_l0 s hs (s.size - (i + 1)) k (i + 1) [] (((bl s).drop (i + 1)).length + 1) J7 J7 J7 (by rw [List.length_drop,bl_length];omega) J53
 rw [bt_nat s i hi]
 rw [drop_bl s i hi] at *
 have hq:=ofK_range (s[i].toNat:Int)
 rw [lex1_cons]
 unfold tokOne
 by_cases h4:ofK (s[i].toNat:Int)=4
 ·rw [if_pos h4];exact ⟨fun _ _ _ _ h=>J145,fun _=>.inl h4⟩
 ·rw [if_neg h4]
  by_cases h0:ofK (s[i].toNat:Int)=0
  ·rw [if_pos h0,if_pos h0]
   refine ⟨fun kd t v n h=>?_,fun h=>J145⟩
   simp only [Option.some.injEq,Prod.mk.injEq] at h
   obtain ⟨rfl,rfl,rfl,rfl⟩:=h
   exact ⟨h4,hn⟩
  ·rw [if_neg h0,if_neg h0]
   by_cases h1:ofK (s[i].toNat:Int)=1
   ·rw [if_pos h1,if_pos h1]
    by_cases hok:numOk ((s[i] :: (bl s).drop (i + 1)).take (runN numU (s[i] :: (bl s).drop (i + 1))))=true
    ·rw [if_pos hok]
     refine ⟨fun kd t v n h=>?_,fun h=>J145⟩
     simp only [Option.some.injEq,Prod.mk.injEq] at h
     obtain ⟨rfl,rfl,rfl,rfl⟩:=h
     rw [hu,hok]
     exact ⟨h4,rfl⟩
    ·rw [if_neg hok]
     rw [Bool.eq_false_iff.mpr hok] at hu
     exact ⟨fun _ _ _ _ h=>J145,fun _=>.inr ⟨_,_,_,_,_,hu⟩⟩
   ·rw [if_neg h1,if_neg h1]
    by_cases h2:ofK (s[i].toNat:Int)=2
    ·rw [if_pos h2,if_pos h2,hst]
     constructor
     ·intro kd t v n h
      obtain ⟨⟨t',n'⟩,h3,h5⟩:=Option.map_eq_some_iff.mp h
      simp only [Prod.mk.injEq] at h5
      obtain ⟨rfl,rfl,rfl,rfl⟩:=h5
      refine ⟨h4,?_⟩
      rw [hl.1 t' n' h3,List.nil_append,show i + 1 + n'=i + (n' + 1) from by omega]
     ·intro h
      obtain ⟨p,hp⟩:=hl.2 (Option.map_eq_none_iff.mp h)
      exact .inr ⟨_,_,_,_,p,hp⟩
    ·rw [if_neg h2,if_neg h2]
     refine ⟨fun kd t v n h=>?_,fun h=>J145⟩
     simp only [Option.some.injEq,Prod.mk.injEq] at h
     obtain ⟨rfl,rfl,rfl,rfl⟩:=h
     exact ⟨h4,ho⟩
abbrev TokS:=S149
def lexL:Nat→Nat→Nat→List UInt8→List TokS ⊕ (Nat × Int)
 | 0,_,p,_=>.inr (p,0)
 | _ + 1,_,_,[]=>.inl []
 | f + 1,m,p,b :: r=>match lex1 (b :: r) with
  | none=>.inr (p,4)
  | some (kd,t,v,n)=>if m=0 then .inr (p,2) else
   match lexL f (m - 1) (p + n + skipN false ((b :: r).drop n)) (((b :: r).drop n).drop (skipN false ((b :: r).drop n))) with
   | .inl ts=>.inl (⟨kd,⟨t.toArray⟩,v,p⟩ :: ts)
   | .inr e=>.inr e
def endL (s:ByteArray) (acc:List TokS):List TokS ⊕ (Nat × Int)→List TokS × Int × Int
 | .inl ts=>(acc++ts,s.size,0)
 | .inr (p,e)=>([],p,e)
theorem tokLoop_eq (s:ByteArray) (hs:s.size≤1000000000000):∀ (d k i m f:Nat) (acc:List TokS),i≤s.size→s.size - i≤d→d + 1 < k→d < f→acc.length + m=1000 →
  tokLoop k s s acc i=some (endL s acc (lexL f m i ((bl s).drop i))):=by
 intro d
 induction d with
 | zero =>
  intro k i m f acc hi hd hk hf hm
  obtain ⟨k,rfl⟩:∃ m,k=m + 1:=⟨k - 1,J7⟩
  obtain ⟨f,rfl⟩:∃ m,f=m + 1:=⟨f - 1,J7⟩
  obtain rfl:i=s.size:=by omega
  simp only [tokLoop]
  rw [if_neg J7,List.drop_of_length_le J117]
  simp [lexL,endL]
 | succ d ih =>
  intro k i m f acc hi hd hk hf hm
  obtain ⟨k,rfl⟩:∃ m,k=m + 1:=⟨k - 1,J7⟩
  obtain ⟨f,rfl⟩:∃ m,f=m + 1:=⟨f - 1,J7⟩
  by_cases hlt:i < s.size
  ·simp only [tokLoop]
   rw [if_pos J7,if_pos J7]
   obtain ⟨h1,h2⟩:=tokOne_eq s hs k i hlt J7
   cases hx:lex1 ((bl s).drop i) with
   | none =>
    have e:lexL (f + 1) m i ((bl s).drop i) = .inr (i,4):=by rw [drop_bl s i hlt] at hx ⊢;simp only [lexL,hx]
    rw [e]
    by_cases h4:ofK (bt s i)=4
    ·rw [if_pos h4];rfl
    ·rw [if_neg h4]
     rcases h2 hx with h|⟨a,b,c,d',p,h⟩
     ·exact absurd h h4
     ·rw [h];rfl
   | some x =>
    obtain ⟨kd,t,v,n⟩:=x
    obtain ⟨h4,h5⟩:=h1 kd t v n hx
    obtain ⟨n1,n2⟩:=lex1_le _ _ _ _ _ hx
    rw [List.length_drop,bl_length] at n2
    rw [if_neg h4,h5]
    simp only [Option.bind_some]
    rw [if_neg J53]
    have hsk:=skip_eq s hs k (i + n) J7 J7
    have hle:=skipN_le false ((bl s).drop (i + n))
    rw [List.length_drop,bl_length] at hle
    by_cases hmm:m=0
    ·have e:lexL (f + 1) m i ((bl s).drop i) = .inr (i,2):=by rw [drop_bl s i hlt] at hx ⊢;simp only [lexL,hx];rw [if_pos hmm]
     rw [if_pos J7,e];rfl
    ·have e:lexL (f + 1) m i ((bl s).drop i)=match lexL f (m - 1) (i + n + skipN false ((bl s).drop (i + n))) ((bl s).drop (i + n + skipN false ((bl s).drop (i + n)))) with
       | .inl ts=>.inl (⟨kd,⟨t.toArray⟩,v,i⟩ :: ts)
       | .inr e=>.inr e:=by
      rw [← List.drop_drop,← List.drop_drop]
      rw [drop_bl s i hlt] at hx ⊢
      simp only [lexL,hx]
      rw [if_neg hmm,show (bl s).drop (i + n)=(s[i] :: (bl s).drop (i + 1)).drop n from by rw [← drop_bl s i hlt,List.drop_drop]]
     rw [if_neg J7,hsk]
     simp only [Option.bind_some]
     rw [ih k _ (m - 1) f _ J7 J7 J7 J7 J129,e]
     cases lexL f (m - 1) (i + n + skipN false ((bl s).drop (i + n))) ((bl s).drop (i + n + skipN false ((bl s).drop (i + n)))) with
     | inl ts=>simp [endL]
     | inr e=>rfl
  ·obtain rfl:i=s.size:=by omega
   simp only [tokLoop]
   rw [if_neg J7,List.drop_of_length_le J117]
   simp [lexL,endL]
def allL (l:List UInt8):List TokS ⊕ (Nat × Int):=lexL (l.length + 1) 1000 (skipN false l) (l.drop (skipN false l))
def allF (s:ByteArray):List TokS × Int × Int:=if s.size > 5000 then ([],0,2) else endL s [] (allL (bl s))
theorem tokAll_eq (s:ByteArray):tokAll (s.size + 3) s=some (allF s):=by
 unfold tokAll allF
 by_cases h:s.size > 5000
 ·rw [if_pos J7,if_pos h]
 ·rw [if_neg J7,if_neg h]
  have hsk:=skip_eq s J7 (s.size + 3) 0 J7 J7
  have hle:=skipN_le false (bl s)
  rw [bl_length] at hle
  simp only [Int.natCast_zero,Nat.zero_add,List.drop_zero] at hsk
  rw [hsk]
  simp only [Option.bind_some]
  unfold allL
  exact tokLoop_eq s J7 s.size (s.size + 3) (skipN false (bl s)) 1000 ((bl s).length + 1) [] hle J7 J7 J117 J53
def token_All.f (a0:ByteArray):Option (List TokS × Int × Int):=some (allF a0)
theorem token_All.calls (a0:ByteArray) (r1:List S149) (r2:Int) (r3:Int) (w:World) (hG:GInv w) (h:token_All.f a0=some (r1,r2,r3)) :
  Calls Tryz.prog 36 #[.string a0] w fun e w'=>∃ v0_:Value,e = .returned (.tuple #[v0_,.int .i64 r2,.int .i64 r3])∧Kd.R k149 149 w' w.heap.size (fun _=>True) v0_ r1∧Below w.heap.size w w' :=
 tokAll_walk (a0.size + 3) a0 r1 r2 r3 w hG (by rw [tokAll_eq];exact h)
def preE (ts:List TokS):List TokS ⊕ (Nat × Int)→List TokS ⊕ (Nat × Int)
 | .inl us=>.inl (ts++us)
 | .inr e=>.inr e
theorem lexL_step (f m p:Nat) (b:UInt8) (r:List UInt8):lexL (f + 1) m p (b :: r)=match lex1 (b :: r) with
  | none=>.inr (p,4)
  | some (kd,t,v,n)=>if m=0 then .inr (p,2) else
   preE [⟨kd,⟨t.toArray⟩,v,p⟩] (lexL f (m - 1) (p + n + skipN false ((b :: r).drop n)) (((b :: r).drop n).drop (skipN false ((b :: r).drop n)))):=by
 rw [lexL]
 cases h:lex1 (b :: r) with
 | none=>rfl
 | some y =>
  obtain ⟨kd,t,v,n⟩:=y
  dsimp only
  by_cases hm:m=0
  ·rw [if_pos hm,if_pos hm]
  ·rw [if_neg hm,if_neg hm]
   cases lexL f (m - 1) (p + n + skipN false ((b :: r).drop n)) (((b :: r).drop n).drop (skipN false ((b :: r).drop n))) <;> rfl
theorem lexL_fuel:∀ f g m p l,l.length < f→l.length < g→lexL f m p l=lexL g m p l:=by
 intro f
 induction f with
 | zero=>intro g m p l h _;omega
 | succ f ih =>
  intro g m p l hf hg
  obtain ⟨g,rfl⟩:∃ m,g=m + 1:=⟨g - 1,J7⟩
  cases l with
  | nil=>rfl
  | cons b r =>
   rw [lexL_step,lexL_step]
   cases h:lex1 (b :: r) with
   | none=>rfl
   | some x =>
    obtain ⟨kd,t,v,n⟩:=x
    obtain ⟨n1,n2⟩:=lex1_le _ _ _ _ _ h
    simp only
    split
    ·rfl
    ·rw [ih g]
     ·simp only [List.length_drop];omega
     ·simp only [List.length_drop];omega
def lx (m p:Nat) (l:List UInt8):List TokS ⊕ (Nat × Int):=lexL (l.length + 1) m p l
def scan (m p:Nat) (l:List UInt8):List TokS ⊕ (Nat × Int):=lx m (p + skipN false l) (l.drop (skipN false l))
theorem lx_nil (m p:Nat):lx m p [] = .inl []:=rfl
theorem lx_cons (m p:Nat) (b:UInt8) (r:List UInt8):lx m p (b :: r)=match lex1 (b :: r) with
  | none=>.inr (p,4)
  | some (kd,t,v,n)=>if m=0 then .inr (p,2) else preE [⟨kd,⟨t.toArray⟩,v,p⟩] (scan (m - 1) (p + n) ((b :: r).drop n)):=by
 unfold lx scan
 rw [lexL_step]
 cases h:lex1 (b :: r) with
 | none=>rfl
 | some x =>
  obtain ⟨kd,t,v,n⟩:=x
  obtain ⟨n1,n2⟩:=lex1_le _ _ _ _ _ h
  simp only
  split
  ·rfl
  ·unfold lx
   rw [lexL_fuel _ ((((b :: r).drop n).drop (skipN false ((b :: r).drop n))).length + 1)]
   ·simp only [List.length_drop];omega
   ·omega
theorem all_scan (l:List UInt8):allL l=scan 1000 0 l:=by
 unfold allL scan lx
 rw [Nat.zero_add]
 exact lexL_fuel _ _ _ _ _ (by simp only [List.length_drop];omega) J7
theorem scan_len:∀ (d m p:Nat) (a:List UInt8) (ts:List TokS),a.length≤d→scan m p a = .inl ts→ts.length≤a.length∧ts.length≤m:=by
 intro d
 induction d with
 | zero =>
  intro m p a ts hd h
  obtain rfl:a=[]:=List.length_eq_zero_iff.mp J7
  simp only [scan,skipN,List.drop_nil,lx_nil,Sum.inl.injEq] at h
  subst h;simp
 | succ d ih =>
  intro m p a ts hd h
  unfold scan at h
  have hk:=skipN_le false a
  generalize skipN false a=k at h hk
  cases hl:a.drop k with
  | nil=>rw [hl,lx_nil] at h;simp only [Sum.inl.injEq] at h;subst h;simp
  | cons c r =>
   have hz:=congrArg List.length hl
   rw [List.length_drop,List.length_cons] at hz
   rw [hl,lx_cons] at h
   cases hx:lex1 (c :: r) with
   | none=>rw [hx] at h;cases h
   | some y =>
    obtain ⟨kd,t,v,n⟩:=y
    obtain ⟨n1,n2⟩:=lex1_le _ _ _ _ _ hx
    rw [hx] at h
    simp only at h
    split at h
    ·cases h
    ·rename_i hm
     cases hs:scan (m - 1) (p + k + n) ((c :: r).drop n) with
     | inr e=>rw [hs] at h;cases h
     | inl us =>
      rw [hs] at h
      simp only [preE,Sum.inl.injEq] at h
      subst h
      simp only [List.length_cons] at n2
      obtain ⟨g1,g2⟩:=ih _ _ _ _ (by simp only [List.length_drop,List.length_cons];omega) hs
      simp only [List.length_drop,List.length_cons] at g1
      simp only [List.length_append,List.length_cons,List.length_nil]
      omega
theorem rd_at (xs:List TokS) (i:Nat) (t:TokS) (h:xs[i]?=some t):rd_T149 xs (i:Int)=t:=by
 unfold rd_T149
 rw [Int.toNat_natCast,List.getD_eq_getElem?_getD,h]
 rfl
theorem allF_len (s:ByteArray):(allF s).1.length≤1000:=by
 unfold allF
 split
 ·simp
 ·rw [all_scan]
  cases h:scan 1000 0 (bl s) with
  | inr e=>obtain ⟨p,e⟩:=e;simp [endL]
  | inl ts=>have:=scan_len _ _ _ _ _ (Nat.le_refl _) h;simp [endL];omega
theorem allF_big (s:ByteArray) (h:5000 < s.size):(allF s).2.2≠0:=by
 unfold allF
 rw [if_pos J7]
 decide
abbrev FieldS:=S36
abbrev MsgS:=S34
abbrev ValS:=S92
abbrev EnumS:=S68
structure PS where
 r:List TokS
 b:Bool
def zT:TokS:=⟨0,⟨#[]⟩,0,0⟩
def pAt (e:Int) (s:PS):Int:=match s.r with
 | []=>e
 | t :: _=>t.f3
def pTake (k:Int) (s:PS):TokS × PS:=if s.b=true then (zT,s) else match s.r with
 | []=>(zT,⟨[],true⟩)
 | t :: r=>if t.f0=k then (t,⟨r,false⟩) else (zT,⟨t :: r,true⟩)
def isT (k:Int) (x:List UInt8) (t:TokS):Bool:=t.f0 == k && bl t.f1 == x
def pIs (j:Nat) (k:Int) (x:List UInt8) (s:PS):Bool:=if s.b=true then false else match s.r[j]? with
 | some t=>isT k x t
 | none=>false
def pSign (x:List UInt8) (s:PS):Bool × PS:=if pIs 0 3 x s=true then (true,⟨s.r.tail,s.b⟩) else (false,s)
def pMust (x:List UInt8) (s:PS):PS:=if pIs 0 3 x s=true then ⟨s.r.tail,s.b⟩ else ⟨s.r,true⟩
def pNamed (s:PS):(ByteArray × Int) × PS :=
 (((pTake 0 s).1.f1,(pTake 1 (pMust [61] (pTake 0 s).2)).1.f2),pMust [59] (pTake 1 (pMust [61] (pTake 0 s).2)).2)
def pField (e one:Int) (s:PS):FieldS × PS :=
 (⟨(pTake 0 s).1.f1,⟨#[]⟩,false,one,(pNamed (pTake 0 s).2).1.1,(pNamed (pTake 0 s).2).1.2,pAt e s⟩,(pNamed (pTake 0 s).2).2)
def pLoop {α:Type} (x:List UInt8) (P:α→Int→PS→α × PS):Nat→α→Int→PS→α × PS
 | 0,a,_,s=>(a,s)
 | f + 1,a,e,s=>if s.b=true then (a,s) else if (pSign x s).1=true then (a,(pSign x s).2) else pLoop x P f (P a e s).1 e (P a e s).2
def mu (s:PS):Nat:=if s.b=true then 0 else s.r.length + 1
def pLoopW {α:Type} (x:List UInt8) (P:α→Int→PS→α × PS) (a:α) (e:Int) (s:PS):α × PS:=pLoop x P (mu s) a e s
def pOne (one:Int) (l:List FieldS) (e:Int) (s:PS):List FieldS × PS:=(l++[(pField e one s).1],(pField e one s).2)
def pNums:Nat→List Int→PS→List Int × PS
 | 0,a,s=>(a,s)
 | f + 1,a,s=>if (pTake 1 s).2.b=true then (a++[(pTake 1 s).1.f2],(pTake 1 s).2) else if (pSign [44] (pTake 1 s).2).1=true then pNums f (a++[(pTake 1 s).1.f2]) (pSign [44] (pTake 1 s).2).2 else (a++[(pTake 1 s).1.f2],(pTake 1 s).2)
abbrev MAcc:=List FieldS × List ByteArray × List Int
def repF (f:FieldS) (at_:Int):FieldS:=⟨f.f0,f.f1,true,f.f3,f.f4,f.f5,at_⟩
def pRep (m:MAcc) (e:Int) (s:PS):MAcc × PS:=((m.1++[repF (pField e 0 (pTake 0 s).2).1 (pAt e s)],m.2.1,m.2.2),(pField e 0 (pTake 0 s).2).2)
def pPlain (m:MAcc) (e:Int) (s:PS):MAcc × PS:=((m.1++[(pField e 0 s).1],m.2.1,m.2.2),(pField e 0 s).2)
def pMapT (s:PS):(ByteArray × ByteArray) × PS :=
 (((pTake 0 (pMust [60] (pTake 0 s).2)).1.f1,(pTake 0 (pMust [44] (pTake 0 (pMust [60] (pTake 0 s).2)).2)).1.f1),pMust [62] (pTake 0 (pMust [44] (pTake 0 (pMust [60] (pTake 0 s).2)).2)).2)
def pMap (m:MAcc) (e:Int) (s:PS):MAcc × PS :=
 ((m.1++[⟨(pMapT s).1.2,(pMapT s).1.1,false,0,(pNamed (pMapT s).2).1.1,(pNamed (pMapT s).2).1.2,pAt e s⟩],m.2.1,m.2.2),(pNamed (pMapT s).2).2)
def pOneof (m:MAcc) (e:Int) (s:PS):MAcc × PS :=
 let z:=pLoopW [125] (pOne ((m.2.1.length:Int) + 1)) m.1 e (pMust [123] (pTake 0 (pTake 0 s).2).2)
 ((z.1,m.2.1++[(pTake 0 (pTake 0 s).2).1.f1],m.2.2),z.2)
def pRes (m:MAcc) (_:Int) (s:PS):MAcc × PS :=
 let z:=pNums ((pTake 0 s).2.r.length + 1) m.2.2 (pTake 0 s).2
 ((m.1,m.2.1,z.1),pMust [59] z.2)
def wRep:List UInt8:=[114,101,112,101,97,116,101,100]
def wOneof:List UInt8:=[111,110,101,111,102]
def wRes:List UInt8:=[114,101,115,101,114,118,101,100]
def wMap:List UInt8:=[109,97,112]
def wMsg:List UInt8:=[109,101,115,115,97,103,101]
def wEnum:List UInt8:=[101,110,117,109]
def itemK (s:PS):Nat:=if pIs 0 0 wRep s=true then 1 else if pIs 0 0 wOneof s=true then 2 else if pIs 0 0 wRes s=true then 3 else if (pIs 0 0 wMap s && pIs 1 3 [60] s)=true then 4 else 0
def pItem (m:MAcc) (e:Int) (s:PS):MAcc × PS:=if itemK s=1 then pRep m e s else if itemK s=2 then pOneof m e s else if itemK s=3 then pRes m e s else if itemK s=4 then pMap m e s else pPlain m e s
def pMsg (e:Int) (s:PS):MsgS × PS :=
 let z:=pLoopW [125] pItem ([],[],[]) e (pMust [123] (pTake 0 (pTake 0 s).2).2)
 (⟨(pTake 0 (pTake 0 s).2).1.f1,z.1.1,z.1.2.1,z.1.2.2,pAt e s⟩,z.2)
def pVal (l:List ValS) (e:Int) (s:PS):List ValS × PS:=(l++[⟨(pNamed s).1.1,(pNamed s).1.2,pAt e s⟩],(pNamed s).2)
def pEnum (e:Int) (s:PS):EnumS × PS :=
 let z:=pLoopW [125] pVal [] e (pMust [123] (pTake 0 (pTake 0 s).2).2)
 (⟨(pTake 0 (pTake 0 s).2).1.f1,z.1,pAt e s⟩,z.2)
abbrev FileS:=List MsgS × List EnumS
def pTop1 (f:FileS) (e:Int) (s:PS):FileS × PS :=
 if pIs 0 0 wMsg s=true then ((f.1++[(pMsg e s).1],f.2),(pMsg e s).2) else if pIs 0 0 wEnum s=true then ((f.1,f.2++[(pEnum e s).1]),(pEnum e s).2) else (f,⟨s.r,true⟩)
def pTop:Nat→FileS→Int→PS→FileS × PS
 | 0,f,_,s=>(f,s)
 | k + 1,f,e,s=>if s.b=true then (f,s) else if s.r=[] then (f,s) else pTop k (pTop1 f e s).1 e (pTop1 f e s).2
def pAll (e:Int) (l:List TokS):FileS × PS:=pTop (l.length + 1) ([],[]) e ⟨l,false⟩
def parseF (s:ByteArray):FileS × Int × Int:=if (allF s).2.2≠0 then (([],[]),(allF s).2.1,(allF s).2.2) else
 if (pAll s.size (allF s).1).2.b=true then (([],[]),pAt s.size (pAll s.size (allF s).1).2,4) else ((pAll s.size (allF s).1).1,s.size,0)
structure Good {α:Type} (P:Int→PS→α × PS):Prop where
 stay:∀ e s,s.b=true→(P e s).2=s
 good:∀ e r,(P e ⟨r,false⟩).2.b=false→∃ c,c≠[]∧r=c++(P e ⟨r,false⟩).2.r∧∀ e' y,P e' ⟨c++y,false⟩=((P e ⟨r,false⟩).1,⟨y,false⟩)
 bad:∀ e r,(P e ⟨r,false⟩).2.b=true→∃ c,r=c++(P e ⟨r,false⟩).2.r∧∀ e',(P e' ⟨c,false⟩).2=⟨[],true⟩
theorem PS_eta (s:PS) (h:s.b=false):s=⟨s.r,false⟩:=by cases s;cases h;rfl
theorem PS_eta1 (s:PS) (h:s.b=true):s=⟨s.r,true⟩:=by cases s;cases h;rfl
theorem Good.nil {α:Type} {P:Int→PS→α × PS} (h:Good P) (e:Int):(P e ⟨[],false⟩).2=⟨[],true⟩:=by
 cases hb:(P e ⟨[],false⟩).2.b with
 | false =>
  obtain ⟨c,hc,he,_⟩:=h.good e [] hb
  cases c with
  | nil=>exact absurd rfl hc
  | cons=>cases he
 | true =>
  obtain ⟨c,he,h2⟩:=h.bad e [] hb
  obtain rfl:c=[]:=by
   cases c with
   | nil=>rfl
   | cons=>cases he
  exact h2 e
theorem Good.seq {α β:Type} {P:Int→PS→α × PS} {Q:α→Int→PS→β × PS} (hP:Good P) (hQ:∀ a,Good (Q a)):Good (fun e s=>Q (P e s).1 e (P e s).2):=by
 refine ⟨fun e s hs=>?_,fun e r hb=>?_,fun e r hb=>?_⟩
 ·show (Q (P e s).1 e (P e s).2).2=s
  rw [hP.stay e s hs]
  exact (hQ _).stay e s hs
 ·have h1:(P e ⟨r,false⟩).2.b=false:=by
   cases h:(P e ⟨r,false⟩).2.b with
   | false=>rfl
   | true =>
    have:=(hQ (P e ⟨r,false⟩).1).stay e _ h
    have hb':(Q (P e ⟨r,false⟩).1 e (P e ⟨r,false⟩).2).2.b=false:=hb
    rw [this,h] at hb'
    cases hb'
  obtain ⟨c,hc,hr,hy⟩:=hP.good e r h1
  have hq:(Q (P e ⟨r,false⟩).1 e ⟨(P e ⟨r,false⟩).2.r,false⟩).2.b=false:=by rw [← PS_eta _ h1];exact hb
  obtain ⟨c2,hc2,hr2,hy2⟩:=(hQ _).good e _ hq
  rw [← PS_eta _ h1] at hr2 hy2
  refine ⟨c++c2,by simp [hc],?_,fun e' y=>?_⟩
  ·rw [List.append_assoc,← hr2];exact hr
  ·show Q (P e' ⟨c++c2++y,false⟩).1 e' (P e' ⟨c++c2++y,false⟩).2=_
   rw [List.append_assoc,hy]
   exact hy2 e' y
 ·cases h1:(P e ⟨r,false⟩).2.b with
  | true =>
   obtain ⟨c,hr,hy⟩:=hP.bad e r h1
   have h2:(Q (P e ⟨r,false⟩).1 e (P e ⟨r,false⟩).2).2=(P e ⟨r,false⟩).2:=(hQ _).stay e _ h1
   refine ⟨c,?_,fun e'=>?_⟩
   ·show r=c++(Q (P e ⟨r,false⟩).1 e (P e ⟨r,false⟩).2).2.r
    rw [h2];exact hr
   ·show (Q (P e' ⟨c,false⟩).1 e' (P e' ⟨c,false⟩).2).2=_
    rw [hy]
    exact (hQ _).stay e' _ rfl
  | false =>
   obtain ⟨c,hc,hr,hy⟩:=hP.good e r h1
   have hq:(Q (P e ⟨r,false⟩).1 e ⟨(P e ⟨r,false⟩).2.r,false⟩).2.b=true:=by rw [← PS_eta _ h1];exact hb
   obtain ⟨c2,hr2,hy2⟩:=(hQ _).bad e _ hq
   rw [← PS_eta _ h1] at hr2
   refine ⟨c++c2,?_,fun e'=>?_⟩
   ·rw [List.append_assoc,← hr2];exact hr
   ·show (Q (P e' ⟨c++c2,false⟩).1 e' (P e' ⟨c++c2,false⟩).2).2=_
    rw [hy]
    exact hy2 e'
theorem pAt_cons (e e':Int) (c y z:List TokS) (b b':Bool) (h:c≠[]):pAt e ⟨c++y,b⟩=pAt e' ⟨c++z,b'⟩:=by
 cases c with
 | nil=>exact absurd rfl h
 | cons=>rfl
theorem Good.at_ {α β:Type} {P:Int→PS→α × PS} (hP:Good P) (f:Int→α→β):Good (fun e s=>(f (pAt e s) (P e s).1,(P e s).2)):=by
 refine ⟨hP.stay,fun e r hb=>?_,hP.bad⟩
 obtain ⟨c,hc,hr,hy⟩:=hP.good e r hb
 refine ⟨c,hc,hr,fun e' y=>?_⟩
 show (f (pAt e' ⟨c++y,false⟩) (P e' ⟨c++y,false⟩).1,(P e' ⟨c++y,false⟩).2)=(f (pAt e ⟨r,false⟩) (P e ⟨r,false⟩).1,_)
 have e1:pAt e' ⟨c++y,false⟩=pAt e ⟨r,false⟩:=by
  have h:=pAt_cons e' e c y (P e ⟨r,false⟩).2.r false false hc
  rw [← hr] at h
  exact h
 rw [hy,e1]
theorem Good.map {α β:Type} {P:Int→PS→α × PS} (hP:Good P) (f:α→β):Good (fun e s=>(f (P e s).1,(P e s).2)):=hP.at_ (fun _ a=>f a)
theorem take_good (k:Int):Good (fun _ s=>pTake k s):=by
 refine ⟨fun e s hs=>?_,fun e r hb=>?_,fun e r hb=>?_⟩
 ·simp only [pTake,hs,if_true]
 ·cases r with
  | nil=>cases hb
  | cons t r =>
   by_cases h:t.f0=k
   ·refine ⟨[t],J53,?_,fun e' y=>?_⟩
    ·simp [pTake,h]
    ·simp [pTake,h]
   ·simp [pTake,h] at hb
 ·cases r with
  | nil=>exact ⟨[],rfl,fun _=>rfl⟩
  | cons t r =>
   by_cases h:t.f0=k
   ·simp [pTake,h] at hb
   ·exact ⟨[],by simp [pTake,h],fun _=>rfl⟩
theorem must_good (x:List UInt8):Good (fun _ s=>((),pMust x s)):=by
 refine ⟨fun e s hs=>?_,fun e r hb=>?_,fun e r hb=>?_⟩
 ·simp only [pMust,pIs,hs,if_true]
  rw [if_neg J11]
  exact (PS_eta1 s hs).symm
 ·cases r with
  | nil=>cases hb
  | cons t r =>
   by_cases h:isT 3 x t=true
   ·refine ⟨[t],J53,?_,fun e' y=>?_⟩
    ·simp [pMust,pIs,h]
    ·simp [pMust,pIs,h]
   ·simp [pMust,pIs,h] at hb
 ·cases r with
  | nil=>exact ⟨[],rfl,fun _=>rfl⟩
  | cons t r =>
   by_cases h:isT 3 x t=true
   ·simp [pMust,pIs,h] at hb
   ·exact ⟨[],by simp [pMust,pIs,h],fun _=>rfl⟩
theorem named_good:Good (fun _ s=>pNamed s) :=
 Good.seq (Q:=fun a _ s=>((a.f1,(pTake 1 (pMust [61] s)).1.f2),pMust [59] (pTake 1 (pMust [61] s)).2)) (take_good 0) fun a =>
  Good.seq (P:=fun _ s=>((),pMust [61] s)) (Q:=fun _ _ s=>((a.f1,(pTake 1 s).1.f2),pMust [59] (pTake 1 s).2)) (must_good [61]) fun _ =>
   Good.seq (P:=fun _ s=>pTake 1 s) (Q:=fun b _ s=>((a.f1,b.f2),pMust [59] s)) (take_good 1) fun b=>(must_good [59]).map fun _=>(a.f1,b.f2)
theorem field_good (one:Int):Good (fun e s=>pField e one s) :=
 Good.at_ (P:=fun _ s=>(((pTake 0 s).1,(pNamed (pTake 0 s).2).1),(pNamed (pTake 0 s).2).2))
  (Good.seq (P:=fun _ s=>pTake 0 s) (Q:=fun t _ s=>((t,(pNamed s).1),(pNamed s).2)) (take_good 0) fun t=>named_good.map fun n=>(t,n))
  (fun a x=>(⟨x.1.f1,⟨#[]⟩,false,one,x.2.1,x.2.2,a⟩:FieldS))
theorem Good.ite {α:Type} {p:PS→Bool} {A B:Int→PS→α × PS} (hA:Good A) (hB:Good B) (hp:∀ s,s.b=true→p s=false) (h0:p ⟨[],false⟩=false) (h1:∀ t r r',p ⟨t :: r,false⟩=p ⟨t :: r',false⟩):Good (fun e s=>if p s=true then A e s else B e s):=by
 have hc:∀ (c y z:List TokS),c≠[]→p ⟨c++y,false⟩=p ⟨c++z,false⟩:=by
  intro c y z h
  cases c with
  | nil=>exact absurd rfl h
  | cons t c=>exact h1 _ _ _
 refine ⟨fun e s hs=>?_,fun e r hb=>?_,fun e r hb=>?_⟩
 ·show (if p s=true then A e s else B e s).2=s
  rw [hp s hs,if_neg J11]
  exact hB.stay e s hs
 ·show ∃ c,c≠[]∧r=c++(if p ⟨r,false⟩=true then A e ⟨r,false⟩ else B e ⟨r,false⟩).2.r∧∀ e' y,(if p ⟨c++y,false⟩=true then A e' ⟨c++y,false⟩ else B e' ⟨c++y,false⟩)=((if p ⟨r,false⟩=true then A e ⟨r,false⟩ else B e ⟨r,false⟩).1,⟨y,false⟩)
  have hb':(if p ⟨r,false⟩=true then A e ⟨r,false⟩ else B e ⟨r,false⟩).2.b=false:=hb
  by_cases h:p ⟨r,false⟩=true
  ·rw [if_pos h] at hb' ⊢
   obtain ⟨c,hn,hr,hy⟩:=hA.good e r hb'
   refine ⟨c,hn,hr,fun e' y=>?_⟩
   have:=hc c y (A e ⟨r,false⟩).2.r hn
   rw [← hr,h] at this
   rw [if_pos this]
   exact hy e' y
  ·rw [if_neg h] at hb' ⊢
   obtain ⟨c,hn,hr,hy⟩:=hB.good e r hb'
   refine ⟨c,hn,hr,fun e' y=>?_⟩
   have:=hc c y (B e ⟨r,false⟩).2.r hn
   rw [← hr] at this
   rw [if_neg (by rw [this];exact h)]
   exact hy e' y
 ·show ∃ c,r=c++(if p ⟨r,false⟩=true then A e ⟨r,false⟩ else B e ⟨r,false⟩).2.r∧∀ e',(if p ⟨c,false⟩=true then A e' ⟨c,false⟩ else B e' ⟨c,false⟩).2=⟨[],true⟩
  have hb':(if p ⟨r,false⟩=true then A e ⟨r,false⟩ else B e ⟨r,false⟩).2.b=true:=hb
  by_cases h:p ⟨r,false⟩=true
  ·rw [if_pos h] at hb' ⊢
   obtain ⟨c,hr,hy⟩:=hA.bad e r hb'
   refine ⟨c,hr,fun e'=>?_⟩
   by_cases hn:c=[]
   ·subst hn
    rw [if_neg (by rw [h0];decide)]
    exact hB.nil e'
   ·have:=hc c [] (A e ⟨r,false⟩).2.r hn
    rw [← hr,h,List.append_nil] at this
    rw [if_pos this]
    exact hy e'
  ·rw [if_neg h] at hb' ⊢
   obtain ⟨c,hr,hy⟩:=hB.bad e r hb'
   refine ⟨c,hr,fun e'=>?_⟩
   by_cases hn:c=[]
   ·subst hn
    rw [if_neg (by rw [h0];decide)]
    exact hB.nil e'
   ·have:=hc c [] (B e ⟨r,false⟩).2.r hn
    rw [← hr,List.append_nil] at this
    rw [if_neg (by rw [this];exact h)]
    exact hy e'
theorem Good.mu_lt {α:Type} {P:Int→PS→α × PS} (h:Good P) (e:Int) (s:PS) (hs:s.b=false):mu (P e s).2 < mu s:=by
 have h1:mu s=s.r.length + 1:=by unfold mu;rw [hs];rfl
 rw [h1,PS_eta s hs]
 cases hb:(P e ⟨s.r,false⟩).2.b with
 | true=>unfold mu;rw [if_pos hb];omega
 | false =>
  obtain ⟨c,hn,hr,_⟩:=h.good e s.r hb
  have h2:mu (P e ⟨s.r,false⟩).2=(P e ⟨s.r,false⟩).2.r.length + 1:=by unfold mu;rw [hb];rfl
  rw [h2]
  have h3:s.r.length=c.length + (P e ⟨s.r,false⟩).2.r.length:=by rw [← List.length_append,← hr]
  have h4:0 < c.length:=by
   cases c with
   | nil=>exact absurd rfl hn
   | cons=>simp
  simp only [h3]
  omega
theorem mu_zero (s:PS) (h:mu s=0):s.b=true:=by
 unfold mu at h
 split at h
 ·assumption
 ·omega
theorem pLoop_fuel {α:Type} (x:List UInt8) {P:α→Int→PS→α × PS} (hP:∀ a,Good (P a)):∀ f g a e s,mu s≤f→mu s≤g→pLoop x P f a e s=pLoop x P g a e s:=by
 intro f
 induction f with
 | zero =>
  intro g a e s hf hg
  have hb:=mu_zero s J7
  cases g with
  | zero=>rfl
  | succ g=>rw [pLoop,pLoop,if_pos hb]
 | succ f ih =>
  intro g a e s hf hg
  cases hb:s.b with
  | true=>cases g with
   | zero=>rw [pLoop,pLoop,if_pos hb]
   | succ g=>rw [pLoop,pLoop,if_pos hb,if_pos hb]
  | false=>cases g with
   | zero =>
    have:=mu_zero s J7
    rw [hb] at this
    cases this
   | succ g =>
    have hn:¬ s.b=true:=by rw [hb];decide
    rw [pLoop,pLoop,if_neg hn,if_neg hn]
    have h1:=(hP a).mu_lt e s hb
    rw [ih g _ e _ J7 J7]
theorem pLoop_stay {α:Type} (x:List UInt8) (P:α→Int→PS→α × PS) (n:Nat) (a:α) (e:Int) (s:PS) (hs:s.b=true):pLoop x P n a e s=(a,s):=by
 cases n with
 | zero=>rfl
 | succ n=>rw [pLoop,if_pos hs]
theorem pLoopW_stay {α:Type} (x:List UInt8) (P:α→Int→PS→α × PS) (a:α) (e:Int) (s:PS) (hs:s.b=true):pLoopW x P a e s=(a,s):=by
 have:mu s=0:=by unfold mu;rw [if_pos hs]
 unfold pLoopW
 rw [this,pLoop]
theorem pLoopW_eq {α:Type} (x:List UInt8) {P:α→Int→PS→α × PS} (hP:∀ a,Good (P a)) (a:α) (e:Int) (s:PS) (hs:s.b=false):pLoopW x P a e s=if (pSign x s).1=true then (a,(pSign x s).2) else pLoopW x P (P a e s).1 e (P a e s).2:=by
 have h1:mu s=s.r.length + 1:=by unfold mu;rw [hs];rfl
 have h2:=(hP a).mu_lt e s hs
 show pLoop x P (mu s) a e s=_
 rw [h1,pLoop,if_neg (by rw [hs];decide),pLoop_fuel x hP s.r.length (mu (P a e s).2) _ e _ J7 (Nat.le_refl _)]
 rfl
theorem pSign_nil (x:List UInt8):pSign x ⟨[],false⟩=(false,⟨[],false⟩):=rfl
theorem pSign_cons (x:List UInt8) (t:TokS) (r:List TokS):pSign x ⟨t :: r,false⟩=if isT 3 x t=true then (true,⟨r,false⟩) else (false,⟨t :: r,false⟩):=by
 by_cases h:isT 3 x t=true <;> simp [pSign,pIs,h]
theorem loop_good {α:Type} (x:List UInt8) {P:α→Int→PS→α × PS} (hP:∀ a,Good (P a)):∀ a,Good (pLoopW x P a):=by
 have hg:∀ n e r a,r.length≤n→(pLoopW x P a e ⟨r,false⟩).2.b=false→∃ c,c≠[]∧r=c++(pLoopW x P a e ⟨r,false⟩).2.r∧∀ e' y,pLoopW x P a e' ⟨c++y,false⟩=((pLoopW x P a e ⟨r,false⟩).1,⟨y,false⟩):=by
  intro n
  induction n with
  | zero =>
   intro e r a hn hb
   obtain rfl:r=[]:=List.length_eq_zero_iff.1 J7
   rw [pLoopW_eq x hP a e _ rfl,pSign_nil,if_neg J11,(hP a).nil e,pLoopW_stay _ _ _ _ _ rfl] at hb
   cases hb
  | succ n ih =>
   intro e r a hn hb
   cases r with
   | nil =>
    rw [pLoopW_eq x hP a e _ rfl,pSign_nil,if_neg J11,(hP a).nil e,pLoopW_stay _ _ _ _ _ rfl] at hb
    cases hb
   | cons t r =>
    by_cases h:isT 3 x t=true
    ·refine ⟨[t],J53,?_,fun e' y=>?_⟩
     ·rw [pLoopW_eq x hP a e _ rfl,pSign_cons,if_pos h,if_pos rfl];rfl
     ·rw [pLoopW_eq x hP a e' _ rfl,pLoopW_eq x hP a e _ rfl,List.singleton_append,pSign_cons,pSign_cons,if_pos h,if_pos h,if_pos rfl,if_pos rfl]
    ·have e1:pLoopW x P a e ⟨t :: r,false⟩=pLoopW x P (P a e ⟨t :: r,false⟩).1 e (P a e ⟨t :: r,false⟩).2:=by rw [pLoopW_eq x hP a e _ rfl,pSign_cons,if_neg h,if_neg Bool.false_ne_true]
     rw [e1] at hb ⊢
     cases h1:(P a e ⟨t :: r,false⟩).2.b with
     | true =>
      rw [pLoopW_stay _ _ _ _ _ h1,h1] at hb
      cases hb
     | false =>
      obtain ⟨c,hc,hr,hy⟩:=(hP a).good e _ h1
      rw [PS_eta _ h1] at hb ⊢
      have hl:(P a e ⟨t :: r,false⟩).2.r.length≤n:=by
       have:(t :: r).length=c.length + (P a e ⟨t :: r,false⟩).2.r.length:=by rw [← List.length_append,← hr]
       have h4:0 < c.length:=by
        cases c with
        | nil=>exact absurd rfl hc
        | cons=>simp
       omega
      obtain ⟨c2,hc2,hr2,hy2⟩:=ih e _ _ hl hb
      obtain ⟨t',c',rfl⟩:∃ t' c',c=t' :: c':=by
       cases c with
       | nil=>exact absurd rfl hc
       | cons t' c'=>exact ⟨t',c',rfl⟩
      obtain rfl:t'=t:=by
       have:=congrArg List.head? hr
       simp at this
       exact this.symm
      refine ⟨t' :: c'++c2,J53,?_,fun e' y=>?_⟩
      ·rw [List.append_assoc,← hr2];exact hr
      ·rw [pLoopW_eq x hP a e' _ rfl,List.append_assoc,List.cons_append,pSign_cons,if_neg h,if_neg Bool.false_ne_true,← List.cons_append,hy]
       exact hy2 e' y
 have hbd:∀ n e r a,r.length≤n→(pLoopW x P a e ⟨r,false⟩).2.b=true→∃ c,r=c++(pLoopW x P a e ⟨r,false⟩).2.r∧∀ e',(pLoopW x P a e' ⟨c,false⟩).2=⟨[],true⟩:=by
  intro n
  induction n with
  | zero =>
   intro e r a hn hb
   obtain rfl:r=[]:=List.length_eq_zero_iff.1 J7
   have:∀ e',(pLoopW x P a e' ⟨[],false⟩).2=⟨[],true⟩:=fun e'=>by rw [pLoopW_eq x hP a e' _ rfl,pSign_nil,if_neg J11,(hP a).nil e',pLoopW_stay _ _ _ _ _ rfl]
   exact ⟨[],by rw [this e];rfl,this⟩
  | succ n ih =>
   intro e r a hn hb
   cases r with
   | nil =>
    have:∀ e',(pLoopW x P a e' ⟨[],false⟩).2=⟨[],true⟩:=fun e'=>by rw [pLoopW_eq x hP a e' _ rfl,pSign_nil,if_neg J11,(hP a).nil e',pLoopW_stay _ _ _ _ _ rfl]
    exact ⟨[],by rw [this e];rfl,this⟩
   | cons t r =>
    by_cases h:isT 3 x t=true
    ·rw [pLoopW_eq x hP a e _ rfl,pSign_cons,if_pos h,if_pos rfl] at hb
     cases hb
    ·have e1:pLoopW x P a e ⟨t :: r,false⟩=pLoopW x P (P a e ⟨t :: r,false⟩).1 e (P a e ⟨t :: r,false⟩).2:=by rw [pLoopW_eq x hP a e _ rfl,pSign_cons,if_neg h,if_neg Bool.false_ne_true]
     rw [e1] at hb ⊢
     cases h1:(P a e ⟨t :: r,false⟩).2.b with
     | true =>
      rw [pLoopW_stay _ _ _ _ _ h1]
      obtain ⟨c,hr,hy⟩:=(hP a).bad e _ h1
      refine ⟨c,hr,fun e'=>?_⟩
      cases c with
      | nil=>rw [pLoopW_eq x hP a e' _ rfl,pSign_nil,if_neg J11,(hP a).nil e',pLoopW_stay _ _ _ _ _ rfl]
      | cons t' c' =>
       obtain rfl:t'=t:=by
        have:=congrArg List.head? hr
        simp at this
        exact this.symm
       rw [pLoopW_eq x hP a e' _ rfl,pSign_cons,if_neg h,if_neg Bool.false_ne_true,hy e',pLoopW_stay _ _ _ _ _ rfl]
     | false =>
      obtain ⟨c,hc,hr,hy⟩:=(hP a).good e _ h1
      rw [PS_eta _ h1] at hb ⊢
      have hl:(P a e ⟨t :: r,false⟩).2.r.length≤n:=by
       have:(t :: r).length=c.length + (P a e ⟨t :: r,false⟩).2.r.length:=by rw [← List.length_append,← hr]
       have h4:0 < c.length:=by
        cases c with
        | nil=>exact absurd rfl hc
        | cons=>simp
       omega
      obtain ⟨c2,hr2,hy2⟩:=ih e _ _ hl hb
      obtain ⟨t',c',rfl⟩:∃ t' c',c=t' :: c':=by
       cases c with
       | nil=>exact absurd rfl hc
       | cons t' c'=>exact ⟨t',c',rfl⟩
      obtain rfl:t'=t:=by
       have:=congrArg List.head? hr
       simp at this
       exact this.symm
      refine ⟨t' :: c'++c2,?_,fun e'=>?_⟩
      ·rw [List.append_assoc,← hr2];exact hr
      ·rw [pLoopW_eq x hP a e' _ rfl,List.cons_append,pSign_cons,if_neg h,if_neg Bool.false_ne_true,← List.cons_append,hy]
       exact hy2 e'
 intro a
 exact ⟨fun e s hs=>by rw [pLoopW_stay _ _ _ _ _ hs],fun e r=>hg r.length e r a (Nat.le_refl _),fun e r=>hbd r.length e r a (Nat.le_refl _)⟩
def pNumM (a:List Int) (s:PS):List Int × PS:=((pNums (s.r.length + 1) a s).1,pMust [59] (pNums (s.r.length + 1) a s).2)
theorem pTake_bad (k:Int) (s:PS) (h:s.b=true):pTake k s=(zT,s):=by unfold pTake;rw [if_pos h]
theorem pMust_bad (x:List UInt8) (s:PS) (h:s.b=true):pMust x s=s:=(must_good x).stay 0 s h
theorem pTake_nil (k:Int):pTake k ⟨[],false⟩=(zT,⟨[],true⟩):=rfl
theorem pTake_cons (k:Int) (t:TokS) (r:List TokS):pTake k ⟨t :: r,false⟩=if t.f0=k then (t,⟨r,false⟩) else (zT,⟨t :: r,true⟩):=rfl
theorem pMust_nil (x:List UInt8):pMust x ⟨[],false⟩=⟨[],true⟩:=rfl
theorem pMust_cons (x:List UInt8) (t:TokS) (r:List TokS):pMust x ⟨t :: r,false⟩=if isT 3 x t=true then ⟨r,false⟩ else ⟨t :: r,true⟩:=by
 by_cases h:isT 3 x t=true <;> simp [pMust,pIs,h]
theorem pNums_fuel:∀ f g a s,s.r.length < f→s.r.length < g→pNums f a s=pNums g a s:=by
 intro f
 induction f with
 | zero=>intro g a s hf;omega
 | succ f ih =>
  intro g a s hf hg
  cases g with
  | zero=>omega
  | succ g =>
   rw [pNums,pNums]
   by_cases hb:(pTake 1 s).2.b=true
   ·rw [if_pos hb,if_pos hb]
   ·rw [if_neg hb,if_neg hb]
    by_cases hs:(pSign [44] (pTake 1 s).2).1=true
    ·rw [if_pos hs,if_pos hs]
     have hl:(pSign [44] (pTake 1 s).2).2.r.length < s.r.length:=by
      obtain ⟨r,b⟩:=s
      cases b with
      | true=>exact absurd rfl hb
      | false=>cases r with
       | nil=>exact absurd rfl hb
       | cons t r =>
        rw [pTake_cons] at hb hs ⊢
        by_cases h1:t.f0=1
        ·rw [if_pos h1] at hs ⊢
         cases r with
         | nil=>cases hs
         | cons u r =>
          rw [pSign_cons]
          split <;> (simp only [List.length_cons];omega)
        ·rw [if_neg h1] at hb
         exact absurd rfl hb
     exact ih g _ _ J7 J7
    ·rw [if_neg hs,if_neg hs]
theorem pNumM_eq (a:List Int) (s:PS):pNumM a s=if (pTake 1 s).2.b=true then (a++[(pTake 1 s).1.f2],(pTake 1 s).2) else if (pSign [44] (pTake 1 s).2).1=true then pNumM (a++[(pTake 1 s).1.f2]) (pSign [44] (pTake 1 s).2).2 else (a++[(pTake 1 s).1.f2],pMust [59] (pTake 1 s).2):=by
 unfold pNumM
 rw [pNums]
 by_cases hb:(pTake 1 s).2.b=true
 ·rw [if_pos hb,if_pos hb,pMust_bad _ _ hb]
 ·rw [if_neg hb,if_neg hb]
  by_cases hs:(pSign [44] (pTake 1 s).2).1=true
  ·rw [if_pos hs,if_pos hs]
   have hl:(pSign [44] (pTake 1 s).2).2.r.length < s.r.length:=by
    obtain ⟨r,b⟩:=s
    cases b with
    | true=>exact absurd rfl hb
    | false=>cases r with
     | nil=>exact absurd rfl hb
     | cons t r =>
      rw [pTake_cons] at hb hs ⊢
      by_cases h1:t.f0=1
      ·rw [if_pos h1] at hs ⊢
       cases r with
       | nil=>cases hs
       | cons u r =>
        rw [pSign_cons]
        split <;> (simp only [List.length_cons];omega)
      ·rw [if_neg h1] at hb
       exact absurd rfl hb
   rw [pNums_fuel s.r.length _ _ _ hl (Nat.lt_succ_self _)]
  ·rw [if_neg hs,if_neg hs]
theorem pNumM_nil (a:List Int):(pNumM a ⟨[],false⟩).2=⟨[],true⟩:=rfl
theorem pNumM_no (a:List Int) (t:TokS) (r:List TokS) (h:t.f0≠1):(pNumM a ⟨t :: r,false⟩).2=⟨t :: r,true⟩:=by
 rw [pNumM_eq,pTake_cons,if_neg h,if_pos rfl]
theorem pNumM_one (a:List Int) (t:TokS) (h:t.f0=1):(pNumM a ⟨[t],false⟩).2=⟨[],true⟩:=by
 rw [pNumM_eq,pTake_cons,if_pos h,if_neg Bool.false_ne_true,pSign_nil,if_neg Bool.false_ne_true,pMust_nil]
theorem pNumM_two (a:List Int) (t u:TokS) (r:List TokS) (h:t.f0=1):pNumM a ⟨t :: u :: r,false⟩=if isT 3 [44] u=true then pNumM (a++[t.f2]) ⟨r,false⟩ else (a++[t.f2],if isT 3 [59] u=true then ⟨r,false⟩ else ⟨u :: r,true⟩):=by
 rw [pNumM_eq,pTake_cons,if_pos h,if_neg Bool.false_ne_true,pSign_cons,pMust_cons]
 by_cases h2:isT 3 [44] u=true
 ·rw [if_pos h2,if_pos h2,if_pos rfl]
 ·rw [if_neg h2,if_neg h2,if_neg Bool.false_ne_true]
theorem numM_good (a:List Int):Good (fun _ s=>pNumM a s):=by
 have hg:∀ n r a,r.length≤n→(pNumM a ⟨r,false⟩).2.b=false→∃ c,c≠[]∧r=c++(pNumM a ⟨r,false⟩).2.r∧∀ y,pNumM a ⟨c++y,false⟩=((pNumM a ⟨r,false⟩).1,⟨y,false⟩):=by
  intro n
  induction n with
  | zero =>
   intro r a hn hb
   obtain rfl:r=[]:=List.length_eq_zero_iff.1 J7
   rw [pNumM_nil] at hb
   cases hb
  | succ n ih =>
   intro r a hn hb
   match r,hn,hb with
   | [],_,hb=>rw [pNumM_nil] at hb;cases hb
   | [t],_,hb =>
    by_cases h:t.f0=1
    ·rw [pNumM_one a t h] at hb;cases hb
    ·rw [pNumM_no a t _ h] at hb;cases hb
   | t :: u :: r,hn,hb =>
    by_cases h:t.f0=1
    ·rw [pNumM_two a t u r h] at hb ⊢
     by_cases h2:isT 3 [44] u=true
     ·rw [if_pos h2] at hb ⊢
      obtain ⟨c,hc,hr,hy⟩:=ih r (a++[t.f2]) (by simp at hn;omega) hb
      refine ⟨t :: u :: c,J53,by rw [List.cons_append,List.cons_append,← hr],fun y=>?_⟩
      rw [List.cons_append,List.cons_append,pNumM_two a t u _ h,if_pos h2]
      exact hy y
     ·rw [if_neg h2] at hb ⊢
      by_cases h3:isT 3 [59] u=true
      ·refine ⟨[t,u],J53,by rw [if_pos h3];rfl,fun y=>?_⟩
       show pNumM a ⟨t :: u :: y,false⟩=_
       rw [pNumM_two a t u _ h,if_neg h2,if_pos h3]
      ·rw [if_neg h3] at hb;cases hb
    ·rw [pNumM_no a t _ h] at hb;cases hb
 have hbd:∀ n r a,r.length≤n→(pNumM a ⟨r,false⟩).2.b=true→∃ c,r=c++(pNumM a ⟨r,false⟩).2.r∧(pNumM a ⟨c,false⟩).2=⟨[],true⟩:=by
  intro n
  induction n with
  | zero =>
   intro r a hn hb
   obtain rfl:r=[]:=List.length_eq_zero_iff.1 J7
   exact ⟨[],by rw [pNumM_nil];rfl,pNumM_nil a⟩
  | succ n ih =>
   intro r a hn hb
   match r,hn,hb with
   | [],_,_=>exact ⟨[],by rw [pNumM_nil];rfl,pNumM_nil a⟩
   | [t],_,_ =>
    by_cases h:t.f0=1
    ·exact ⟨[t],by rw [pNumM_one a t h];rfl,pNumM_one a t h⟩
    ·exact ⟨[],by rw [pNumM_no a t _ h];rfl,pNumM_nil a⟩
   | t :: u :: r,hn,hb =>
    by_cases h:t.f0=1
    ·rw [pNumM_two a t u r h] at hb ⊢
     by_cases h2:isT 3 [44] u=true
     ·rw [if_pos h2] at hb ⊢
      obtain ⟨c,hr,hy⟩:=ih r (a++[t.f2]) (by simp at hn;omega) hb
      refine ⟨t :: u :: c,by rw [List.cons_append,List.cons_append,← hr],?_⟩
      rw [pNumM_two a t u _ h,if_pos h2]
      exact hy
     ·rw [if_neg h2] at hb ⊢
      by_cases h3:isT 3 [59] u=true
      ·rw [if_pos h3] at hb;cases hb
      ·exact ⟨[t],by rw [if_neg h3];rfl,pNumM_one a t h⟩
    ·exact ⟨[],by rw [pNumM_no a t _ h];rfl,pNumM_nil a⟩
 refine ⟨fun e s hs=>?_,fun e r hb=>?_,fun e r hb=>?_⟩
 ·show (pNumM a s).2=s
  rw [pNumM_eq,pTake_bad _ _ hs,if_pos hs]
 ·obtain ⟨c,h1,h2,h3⟩:=hg r.length r a (Nat.le_refl _) hb
  exact ⟨c,h1,h2,fun _=>h3⟩
 ·obtain ⟨c,h1,h2⟩:=hbd r.length r a (Nat.le_refl _) hb
  exact ⟨c,h1,fun _=>h2⟩
theorem rep_good (m:MAcc):Good (pRep m) :=
 Good.at_ (P:=fun e s=>pField e 0 (pTake 0 s).2) (Good.seq (P:=fun _ s=>pTake 0 s) (Q:=fun _ e s=>pField e 0 s) (take_good 0) fun _=>field_good 0) (fun a f=>((m.1++[repF f a],m.2.1,m.2.2):MAcc))
theorem plain_good (m:MAcc):Good (pPlain m):=Good.map (P:=fun e s=>pField e 0 s) (field_good 0) (fun f=>((m.1++[f],m.2.1,m.2.2):MAcc))
theorem mapT_good:Good (fun _ s=>pMapT s) :=
 Good.seq (P:=fun _ s=>pTake 0 s) (Q:=fun _ _ s=>(((pTake 0 (pMust [60] s)).1.f1,(pTake 0 (pMust [44] (pTake 0 (pMust [60] s)).2)).1.f1),pMust [62] (pTake 0 (pMust [44] (pTake 0 (pMust [60] s)).2)).2)) (take_good 0) fun _ =>
 Good.seq (P:=fun _ s=>((),pMust [60] s)) (Q:=fun _ _ s=>(((pTake 0 s).1.f1,(pTake 0 (pMust [44] (pTake 0 s).2)).1.f1),pMust [62] (pTake 0 (pMust [44] (pTake 0 s).2)).2)) (must_good [60]) fun _ =>
 Good.seq (P:=fun _ s=>pTake 0 s) (Q:=fun a _ s=>((a.f1,(pTake 0 (pMust [44] s)).1.f1),pMust [62] (pTake 0 (pMust [44] s)).2)) (take_good 0) fun a =>
 Good.seq (P:=fun _ s=>((),pMust [44] s)) (Q:=fun _ _ s=>((a.f1,(pTake 0 s).1.f1),pMust [62] (pTake 0 s).2)) (must_good [44]) fun _ =>
 Good.seq (P:=fun _ s=>pTake 0 s) (Q:=fun b _ s=>((a.f1,b.f1),pMust [62] s)) (take_good 0) fun b=>(must_good [62]).map fun _=>(a.f1,b.f1)
theorem map_good (m:MAcc):Good (pMap m) :=
 Good.at_ (P:=fun _ s=>(((pMapT s).1,(pNamed (pMapT s).2).1),(pNamed (pMapT s).2).2))
  (Good.seq (P:=fun _ s=>pMapT s) (Q:=fun k _ s=>((k,(pNamed s).1),(pNamed s).2)) mapT_good fun k=>named_good.map fun n=>(k,n))
  (fun a x=>((m.1++[⟨x.1.2,x.1.1,false,0,x.2.1,x.2.2,a⟩],m.2.1,m.2.2):MAcc))
theorem one_good (one:Int) (l:List FieldS):Good (pOne one l):=Good.map (P:=fun e s=>pField e one s) (field_good one) (fun f=>l++[f])
theorem oneof_good (m:MAcc):Good (pOneof m) :=
 Good.seq (P:=fun _ s=>pTake 0 s) (Q:=fun _ e s=>(((pLoopW [125] (pOne ((m.2.1.length:Int) + 1)) m.1 e (pMust [123] (pTake 0 s).2)).1,m.2.1++[(pTake 0 s).1.f1],m.2.2),(pLoopW [125] (pOne ((m.2.1.length:Int) + 1)) m.1 e (pMust [123] (pTake 0 s).2)).2)) (take_good 0) fun _ =>
 Good.seq (P:=fun _ s=>pTake 0 s) (Q:=fun n e s=>(((pLoopW [125] (pOne ((m.2.1.length:Int) + 1)) m.1 e (pMust [123] s)).1,m.2.1++[n.f1],m.2.2),(pLoopW [125] (pOne ((m.2.1.length:Int) + 1)) m.1 e (pMust [123] s)).2)) (take_good 0) fun n =>
 Good.seq (P:=fun _ s=>((),pMust [123] s)) (Q:=fun _ e s=>(((pLoopW [125] (pOne ((m.2.1.length:Int) + 1)) m.1 e s).1,m.2.1++[n.f1],m.2.2),(pLoopW [125] (pOne ((m.2.1.length:Int) + 1)) m.1 e s).2)) (must_good [123]) fun _ =>
 Good.map (P:=fun e s=>pLoopW [125] (pOne ((m.2.1.length:Int) + 1)) m.1 e s) (loop_good [125] (one_good _) m.1) (fun l=>((l,m.2.1++[n.f1],m.2.2):MAcc))
theorem res_good (m:MAcc):Good (pRes m) :=
 Good.seq (P:=fun _ s=>pTake 0 s) (Q:=fun _ _ s=>((m.1,m.2.1,(pNumM m.2.2 s).1),(pNumM m.2.2 s).2)) (take_good 0) fun _ =>
 Good.map (P:=fun _ s=>pNumM m.2.2 s) (numM_good m.2.2) (fun l=>((m.1,m.2.1,l):MAcc))
theorem pNamed_nil:(pNamed ⟨[],false⟩).2=⟨[],true⟩:=rfl
theorem plain_one (m:MAcc) (e:Int) (t:TokS) (h:t.f0=0):(pPlain m e ⟨[t],false⟩).2=⟨[],true⟩:=by
 show (pNamed (pTake 0 ⟨[t],false⟩).2).2=_
 rw [pTake_cons,if_pos h]
 exact pNamed_nil
theorem map_one (m:MAcc) (e:Int) (t:TokS) (h:t.f0=0):(pMap m e ⟨[t],false⟩).2=⟨[],true⟩:=by
 show (pNamed (pMust [62] (pTake 0 (pMust [44] (pTake 0 (pMust [60] (pTake 0 ⟨[t],false⟩).2)).2)).2)).2=_
 rw [pTake_cons,if_pos h]
 rfl
def isMap (s:PS):Bool:=pIs 0 0 wMap s && pIs 1 3 [60] s
theorem isMap_cons (t u:TokS) (r:List TokS):isMap ⟨t :: u :: r,false⟩=(isT 0 wMap t && isT 3 [60] u):=rfl
theorem isMap_one (t:TokS):isMap ⟨[t],false⟩=false:=by
 show (isT 0 wMap t && false)=false
 exact Bool.and_false _
theorem isT_kind {k:Int} {x:List UInt8} {t:TokS} (h:isT k x t=true):t.f0=k:=by
 unfold isT at h
 rw [Bool.and_eq_true] at h
 exact eq_of_beq h.1
theorem mapOr_good (m:MAcc):Good (fun e s=>if isMap s=true then pMap m e s else pPlain m e s):=by
 refine ⟨fun e s hs=>?_,fun e r hb=>?_,fun e r hb=>?_⟩
 ·show (if isMap s=true then pMap m e s else pPlain m e s).2=s
  have:isMap s=false:=by unfold isMap pIs;rw [if_pos hs];rfl
  rw [this,if_neg J11]
  exact (plain_good m).stay e s hs
 ·show ∃ c,c≠[]∧r=c++(if isMap ⟨r,false⟩=true then pMap m e ⟨r,false⟩ else pPlain m e ⟨r,false⟩).2.r∧∀ e' y,(if isMap ⟨c++y,false⟩=true then pMap m e' ⟨c++y,false⟩ else pPlain m e' ⟨c++y,false⟩)=((if isMap ⟨r,false⟩=true then pMap m e ⟨r,false⟩ else pPlain m e ⟨r,false⟩).1,⟨y,false⟩)
  have hb':(if isMap ⟨r,false⟩=true then pMap m e ⟨r,false⟩ else pPlain m e ⟨r,false⟩).2.b=false:=hb
  match r,hb' with
  | [],hb' =>
   rw [if_neg J11,(plain_good m).nil e] at hb'
   cases hb'
  | [t],hb' =>
   rw [isMap_one,if_neg J11] at hb'
   by_cases h0:t.f0=0
   ·rw [plain_one m e t h0] at hb';cases hb'
   ·have:(pPlain m e ⟨[t],false⟩).2.b=true:=by
     show (pNamed (pTake 0 ⟨[t],false⟩).2).2.b=true
     rw [pTake_cons,if_neg h0]
     rfl
    rw [this] at hb';cases hb'
  | t :: u :: r,hb' =>
   by_cases h:isMap ⟨t :: u :: r,false⟩=true
   ·rw [if_pos h] at hb' ⊢
    obtain ⟨c,hc,hr,hy⟩:=(map_good m).good e _ hb'
    rw [isMap_cons,Bool.and_eq_true] at h
    refine ⟨c,hc,hr,fun e' y=>?_⟩
    match c,hc,hr,hy with
    | [t'],_,hr,hy =>
     have:=hy e []
     injection hr with h1 h2
     subst h1
     rw [List.append_nil] at this
     have h5:=congrArg (fun z=>z.2.b) this
     simp only [map_one m e t (isT_kind h.1)] at h5
     cases h5
    | t' :: u' :: c,_,hr,hy =>
     injection hr with h1 h2
     injection h2 with h2 h3
     subst h1
     subst h2
     rw [List.cons_append,List.cons_append,isMap_cons,h.1,h.2,if_pos J11,← List.cons_append,← List.cons_append]
     exact hy e' y
   ·rw [if_neg h] at hb' ⊢
    obtain ⟨c,hc,hr,hy⟩:=(plain_good m).good e _ hb'
    refine ⟨c,hc,hr,fun e' y=>?_⟩
    match c,hc,hr,hy with
    | [t'],_,hr,hy =>
     have:=hy e []
     injection hr with h1 h2
     subst h1
     rw [List.append_nil] at this
     by_cases h0:t.f0=0
     ·have h5:=congrArg (fun z=>z.2.b) this
      simp only [plain_one m e t h0] at h5
      cases h5
     ·have h5:=congrArg (fun z=>z.2.b) this
      have:(pPlain m e ⟨[t],false⟩).2.b=true:=by
       show (pNamed (pTake 0 ⟨[t],false⟩).2).2.b=true
       rw [pTake_cons,if_neg h0]
       rfl
      simp only [this] at h5
      cases h5
    | t' :: u' :: c,_,hr,hy =>
     injection hr with h1 h2
     injection h2 with h2 h3
     subst h1
     subst h2
     rw [isMap_cons] at h
     rw [List.cons_append,List.cons_append,isMap_cons,if_neg h,← List.cons_append,← List.cons_append]
     exact hy e' y
 ·show ∃ c,r=c++(if isMap ⟨r,false⟩=true then pMap m e ⟨r,false⟩ else pPlain m e ⟨r,false⟩).2.r∧∀ e',(if isMap ⟨c,false⟩=true then pMap m e' ⟨c,false⟩ else pPlain m e' ⟨c,false⟩).2=⟨[],true⟩
  have hb':(if isMap ⟨r,false⟩=true then pMap m e ⟨r,false⟩ else pPlain m e ⟨r,false⟩).2.b=true:=hb
  have hnil:∀ e',(if isMap ⟨[],false⟩=true then pMap m e' ⟨[],false⟩ else pPlain m e' ⟨[],false⟩).2=⟨[],true⟩:=fun e'=>by rw [if_neg J11];exact (plain_good m).nil e'
  by_cases h:isMap ⟨r,false⟩=true
  ·rw [if_pos h] at hb' ⊢
   obtain ⟨c,hr,hy⟩:=(map_good m).bad e _ hb'
   refine ⟨c,hr,fun e'=>?_⟩
   match c,hr,hy with
   | [],_,_=>exact hnil e'
   | [t'],hr,hy =>
    rw [isMap_one,if_neg J11]
    have h0:t'.f0=0:=by
     rw [hr] at h
     unfold isMap at h
     rw [Bool.and_eq_true] at h
     exact isT_kind (k:=0) (x:=wMap) h.1
    exact plain_one m e' t' h0
   | t' :: u' :: c,hr,hy =>
    rw [hr,List.cons_append,List.cons_append,isMap_cons] at h
    rw [isMap_cons,if_pos h]
    exact hy e'
  ·rw [if_neg h] at hb' ⊢
   obtain ⟨c,hr,hy⟩:=(plain_good m).bad e _ hb'
   refine ⟨c,hr,fun e'=>?_⟩
   match c,hr,hy with
   | [],_,_=>exact hnil e'
   | [t'],hr,hy=>rw [isMap_one,if_neg J11];exact hy e'
   | t' :: u' :: c,hr,hy =>
    rw [hr,List.cons_append,List.cons_append,isMap_cons] at h
    rw [isMap_cons,if_neg h]
    exact hy e'
theorem pIs0_bad (k:Int) (x:List UInt8) (j:Nat):∀ s:PS,s.b=true→pIs j k x s=false:=fun s h=>by unfold pIs;rw [if_pos h]
theorem pItem_eq (m:MAcc) (e:Int) (s:PS):pItem m e s=if pIs 0 0 wRep s=true then pRep m e s else if pIs 0 0 wOneof s=true then pOneof m e s else if pIs 0 0 wRes s=true then pRes m e s else if isMap s=true then pMap m e s else pPlain m e s:=by
 unfold pItem itemK
 by_cases h1:pIs 0 0 wRep s=true
 ·rw [if_pos h1,if_pos h1,if_pos rfl]
 ·rw [if_neg h1,if_neg h1]
  by_cases h2:pIs 0 0 wOneof s=true
  ·rw [if_pos h2,if_pos h2,if_neg J11,if_pos rfl]
  ·rw [if_neg h2,if_neg h2]
   by_cases h3:pIs 0 0 wRes s=true
   ·rw [if_pos h3,if_pos h3,if_neg J11,if_neg J11,if_pos rfl]
   ·rw [if_neg h3,if_neg h3]
    unfold isMap
    by_cases h4:(pIs 0 0 wMap s && pIs 1 3 [60] s)=true
    ·rw [if_pos h4,if_pos h4,if_neg J11,if_neg J11,if_neg J11,if_pos rfl]
    ·rw [if_neg h4,if_neg h4,if_neg J11,if_neg J11,if_neg J11,if_neg J11]
theorem item_good (m:MAcc):Good (pItem m):=by
 have e:pItem m=fun e s=>if pIs 0 0 wRep s=true then pRep m e s else if pIs 0 0 wOneof s=true then pOneof m e s else if pIs 0 0 wRes s=true then pRes m e s else if isMap s=true then pMap m e s else pPlain m e s:=by
  funext e s
  exact pItem_eq m e s
 rw [e]
 exact Good.ite (rep_good m) (Good.ite (oneof_good m) (Good.ite (res_good m) (mapOr_good m) (pIs0_bad _ _ _) rfl (fun _ _ _=>rfl)) (pIs0_bad _ _ _) rfl (fun _ _ _=>rfl)) (pIs0_bad _ _ _) rfl (fun _ _ _=>rfl)
theorem msg_good:Good pMsg :=
 Good.at_ (P:=fun e s=>(((pTake 0 (pTake 0 s).2).1,(pLoopW [125] pItem ([],[],[]) e (pMust [123] (pTake 0 (pTake 0 s).2).2)).1),(pLoopW [125] pItem ([],[],[]) e (pMust [123] (pTake 0 (pTake 0 s).2).2)).2))
  (Good.seq (P:=fun _ s=>pTake 0 s) (Q:=fun _ e s=>(((pTake 0 s).1,(pLoopW [125] pItem ([],[],[]) e (pMust [123] (pTake 0 s).2)).1),(pLoopW [125] pItem ([],[],[]) e (pMust [123] (pTake 0 s).2)).2)) (take_good 0) fun _ =>
   Good.seq (P:=fun _ s=>pTake 0 s) (Q:=fun n e s=>((n,(pLoopW [125] pItem ([],[],[]) e (pMust [123] s)).1),(pLoopW [125] pItem ([],[],[]) e (pMust [123] s)).2)) (take_good 0) fun n =>
   Good.seq (P:=fun _ s=>((),pMust [123] s)) (Q:=fun _ e s=>((n,(pLoopW [125] pItem ([],[],[]) e s).1),(pLoopW [125] pItem ([],[],[]) e s).2)) (must_good [123]) fun _ =>
   Good.map (P:=fun e s=>pLoopW [125] pItem ([],[],[]) e s) (loop_good [125] item_good ([],[],[])) (fun z=>(n,z)))
  (fun a x=>(⟨x.1.f1,x.2.1,x.2.2.1,x.2.2.2,a⟩:MsgS))
theorem val_good (l:List ValS):Good (pVal l):=Good.at_ (P:=fun _ s=>pNamed s) named_good (fun a n=>l++[(⟨n.1,n.2,a⟩:ValS)])
theorem enum_good:Good pEnum :=
 Good.at_ (P:=fun e s=>(((pTake 0 (pTake 0 s).2).1,(pLoopW [125] pVal [] e (pMust [123] (pTake 0 (pTake 0 s).2).2)).1),(pLoopW [125] pVal [] e (pMust [123] (pTake 0 (pTake 0 s).2).2)).2))
  (Good.seq (P:=fun _ s=>pTake 0 s) (Q:=fun _ e s=>(((pTake 0 s).1,(pLoopW [125] pVal [] e (pMust [123] (pTake 0 s).2)).1),(pLoopW [125] pVal [] e (pMust [123] (pTake 0 s).2)).2)) (take_good 0) fun _ =>
   Good.seq (P:=fun _ s=>pTake 0 s) (Q:=fun n e s=>((n,(pLoopW [125] pVal [] e (pMust [123] s)).1),(pLoopW [125] pVal [] e (pMust [123] s)).2)) (take_good 0) fun n =>
   Good.seq (P:=fun _ s=>((),pMust [123] s)) (Q:=fun _ e s=>((n,(pLoopW [125] pVal [] e s).1),(pLoopW [125] pVal [] e s).2)) (must_good [123]) fun _ =>
   Good.map (P:=fun e s=>pLoopW [125] pVal [] e s) (loop_good [125] val_good []) (fun z=>(n,z)))
  (fun a x=>(⟨x.1.f1,x.2,a⟩:EnumS))
theorem top1_good (f:FileS):Good (pTop1 f) :=
 Good.ite (msg_good.map fun m=>((f.1++[m],f.2):FileS)) (Good.ite (enum_good.map fun m=>((f.1,f.2++[m]):FileS)) (B:=fun _ s=>(f,⟨s.r,true⟩))
  ⟨fun e s hs=>(PS_eta1 s hs).symm,fun e r hb=>(by cases hb),fun e r _=>⟨[],rfl,fun _=>rfl⟩⟩ (pIs0_bad _ _ _) rfl (fun _ _ _=>rfl)) (pIs0_bad _ _ _) rfl (fun _ _ _=>rfl)
structure Fr (B g:Nat) (w w':World):Prop where
 os:w'.os=w.os
 tape:w'.tape=w.tape
 output:w'.output=w.output
 size:w.heap.size≤w'.heap.size
 block:∀ k,k < B→k≠g→w'.heap[k]?=w.heap[k]?
theorem Fr.refl (B g:Nat) (w:World):Fr B g w w:=⟨rfl,rfl,rfl,Nat.le_refl _,fun _ _ _=>rfl⟩
theorem Fr.trans {B g:Nat} {a b c:World} (h:Fr B g a b) (k:Fr B g b c):Fr B g a c :=
 ⟨k.os.trans h.os,k.tape.trans h.tape,k.output.trans h.output,Nat.le_trans h.size k.size,fun i hi hg=>(k.block i hi hg).trans (h.block i hi hg)⟩
theorem Fr.mono {B B' g:Nat} {a b:World} (h:Fr B g a b) (hB:B'≤B):Fr B' g a b:=⟨h.os,h.tape,h.output,h.size,fun i hi=>h.block i (Nat.lt_of_lt_of_le hi hB)⟩
theorem Fr.of_below {B g:Nat} {a b:World} (h:Below B a b):Fr B g a b:=⟨h.os,h.tape,h.output,h.size,fun i hi _=>h.block i hi⟩
theorem Fr.alloc {B g:Nat} {a w:World} (h:Fr B g a w) (hB:B≤w.heap.size) (o:Obj):Fr B g a (w.alloc o):=h.trans (Fr.of_below ((Below.refl _ _).alloc hB o))
theorem Fr.set_ {B g:Nat} {a w:World} (h:Fr B g a w) (j:Nat) (u:Value):Fr B g a (w.setCell ⟨g,j,none⟩ u):=by
 have k:=(Below.refl 0 w).setCell (p:=⟨g,j,none⟩) (Nat.zero_le _) u
 exact ⟨k.os.trans h.os,k.tape.trans h.tape,k.output.trans h.output,Nat.le_trans h.size k.size,fun i hi hg=>(Below.heap_setCell w ⟨g,j,none⟩ u i hg).trans (h.block i hi hg)⟩
theorem Fr.far {B g:Nat} {a w:World} (h:Fr B g a w) {p:Addr} (hp:B≤p.block) (u:Value):Fr B g a (w.setCell p u):=h.trans (Fr.of_below ((Below.refl _ _).setCell hp u))
theorem Fr.drew {B g:Nat} {a w:World} (h:Fr B g a w):Fr B g a w.drew:=⟨h.os,h.tape,h.output,h.size,h.block⟩
theorem Fr.drewN {B g:Nat} {a w:World} (h:Fr B g a w) (n:Nat):Fr B g a (w.drewN n):=⟨h.os,h.tape,h.output,h.size,h.block⟩
theorem Fr.below {B g B0:Nat} {w0 w w':World} (h:Fr B g w w') (k:Below B0 w0 w) (h1:B0≤B) (h2:B0≤g):Below B0 w0 w' :=
 ⟨h.os.trans k.os,h.tape.trans k.tape,h.output.trans k.output,Nat.le_trans k.size h.size,fun i hi=>(h.block i J7 J7).trans (k.block i hi)⟩
theorem Fr.cell {B g:Nat} {w w':World} (h:Fr B g w w') {p:Addr} (hp:p.block < B) (hg:p.block≠g):w'.cell? p=w.cell? p:=World.cell?_of_block (w:=w) (h.block p.block hp hg)
theorem Fr.keep {B g:Nat} {w w':World} (h:Fr B g w w') (hB:B=w.heap.size):KeepBut w w' g none:=⟨h.size,fun i hi hg _=>h.block i (hB ▸ hi) hg⟩
def TRow (w:World) (A:Option Addr) (l:List TokS):Prop:=∀ j t,l[j]?=some t→∃ ad,A=some ad∧w.cell? (ad.add (j * 4))=some (.int .i64 t.f0)∧w.cell? ⟨(ad.add (j * 4)).block,(ad.add (j * 4)).off + 1,none⟩=some (.string t.f1)∧w.cell? ⟨(ad.add (j * 4)).block,(ad.add (j * 4)).off + 2,none⟩=some (.int .i64 t.f2)∧w.cell? ⟨(ad.add (j * 4)).block,(ad.add (j * 4)).off + 3,none⟩=some (.int .i64 t.f3)
structure TK (B:Nat) (W:World) (p g:Nat) (A:Option Addr) (c:Nat) (l:List TokS) (e:Int) (n:Nat) (b:Bool):Prop where
 blk:W.heap[g]?=some (.cells #[.slice A l.length c,.int .i64 e,.int .i64 (n:Int),.bool b] 77 (0,0))
 par:W.cell? ⟨p,0,none⟩=some (.pointer (some ⟨g,0,none⟩))
 row:TRow W A l
 hp:p < B
 hg:g < B
 hpg:p≠g
 hA:∀ ad,A=some ad→ad.block < B∧ad.block≠g∧ad.block≠p
 len:l.length≤1000
 hn:n≤l.length
 cap:l.length≤c
 hB:B≤W.heap.size
theorem TK.move {B B' p g c n n':Nat} {W W':World} {A:Option Addr} {l:List TokS} {e:Int} {b b':Bool} (h:TK B W p g A c l e n b) (hF:Fr B' g W W') (hB:B≤B')
  (hb:W'.heap[g]?=some (.cells #[.slice A l.length c,.int .i64 e,.int .i64 (n':Int),.bool b'] 77 (0,0))) (hn:n'≤l.length):TK B W' p g A c l e n' b':=by
 have hc:∀ q:Addr,q.block < B→q.block≠g→W'.cell? q=W.cell? q:=fun q h1 h2=>hF.cell (Nat.lt_of_lt_of_le h1 hB) h2
 refine ⟨hb,(hc ⟨p,0,none⟩ h.hp h.hpg).trans h.par,?_,h.hp,h.hg,h.hpg,h.hA,h.len,hn,h.cap,Nat.le_trans h.hB hF.size⟩
 intro j t hj
 obtain ⟨ad,rfl,h0,h1,h2,h3⟩:=h.row j t hj
 obtain ⟨k1,k2,_⟩:=h.hA ad rfl
 have ha:∀ q:Addr,q.block=(ad.add (j * 4)).block→W'.cell? q=W.cell? q:=fun q e=>hc _ (by rw [e,add_block];exact k1) (by rw [e,add_block];exact k2)
 exact ⟨ad,rfl,(ha _ rfl).trans h0,(ha ⟨_,_,none⟩ rfl).trans h1,(ha ⟨_,_,none⟩ rfl).trans h2,(ha ⟨_,_,none⟩ rfl).trans h3⟩
theorem TK.below {B p g c n:Nat} {W W':World} {A:Option Addr} {l:List TokS} {e:Int} {b:Bool} (h:TK B W p g A c l e n b) (hb:Below W.heap.size W W'):TK B W' p g A c l e n b :=
 h.move (Fr.of_below (hb.mono h.hB)) (Nat.le_refl _) (blk_below h.blk hb) h.hn
theorem TK.other {B p g c n:Nat} {W W':World} {A:Option Addr} {l:List TokS} {e:Int} {b:Bool} (h:TK B W p g A c l e n b) (hb:Below B W W'):TK B W' p g A c l e n b :=
 h.move (Fr.of_below hb) (Nat.le_refl _) ((hb.block g h.hg).trans h.blk) h.hn
theorem TK.tok {B p g c n:Nat} {W:World} {A:Option Addr} {l:List TokS} {e:Int} {b:Bool} (h:TK B W p g A c l e n b) (j:Nat) (hj:j < l.length):∃ ad,A=some ad∧W.cell? (ad.add (j * 4))=some (.int .i64 l[j].f0)∧W.cell? ⟨(ad.add (j * 4)).block,(ad.add (j * 4)).off + 1,none⟩=some (.string l[j].f1)∧W.cell? ⟨(ad.add (j * 4)).block,(ad.add (j * 4)).off + 2,none⟩=some (.int .i64 l[j].f2)∧W.cell? ⟨(ad.add (j * 4)).block,(ad.add (j * 4)).off + 3,none⟩=some (.int .i64 l[j].f3):=h.row j _ (by simp [hj])
theorem TK.drewN {B p g c n:Nat} {W:World} {A:Option Addr} {l:List TokS} {e:Int} {b:Bool} (h:TK B W p g A c l e n b) (m:Nat):TK B (W.drewN m) p g A c l e n b:=h.other (pw_below_drewN (Below.refl _ _) m)
theorem TK.setb {B p g c n:Nat} {W:World} {A:Option Addr} {l:List TokS} {e:Int} {b:Bool} (h:TK B W p g A c l e n b) (b':Bool):TK B (W.setCell ⟨g,3,none⟩ (.bool b')) p g A c l e n b' :=
 h.move ((Fr.refl B g W).set_ 3 _) (Nat.le_refl _) (blk_put h.blk 3 _ rfl) h.hn
theorem TK.setn {B p g c n:Nat} {W:World} {A:Option Addr} {l:List TokS} {e:Int} {b:Bool} (h:TK B W p g A c l e n b) (n':Nat) (hn:n'≤l.length):TK B (W.setCell ⟨g,2,none⟩ (.int .i64 (n':Int))) p g A c l e n' b :=
 h.move ((Fr.refl B g W).set_ 2 _) (Nat.le_refl _) (blk_put h.blk 2 _ rfl) hn
theorem TK.far {B p g c n:Nat} {W:World} {A:Option Addr} {l:List TokS} {e:Int} {b:Bool} (h:TK B W p g A c l e n b) {q:Addr} (hq:B≤q.block) (u:Value):TK B (W.setCell q u) p g A c l e n b:=h.other ((Below.refl _ _).setCell hq u)
def AtPost (W:World) (r:Int) (e:Ending) (W':World):Prop:=e = .returned (.int .i64 r)∧Drawn0 W W'
theorem drop_here {l:List TokS} {n:Nat} (h:n < l.length):l.drop n=l[n] :: l.drop (n + 1):=List.drop_eq_getElem_cons h
set_option maxHeartbeats 1000000 in
theorem at_calls {B p g c n:Nat} {W:World} {A:Option Addr} {l:List TokS} {e:Int} {b:Bool} (h:TK B W p g A c l e n b) :
  Calls Tryz.prog 40 #[.pointer (some ⟨g,0,none⟩)] W (AtPost W (pAt e ⟨l.drop n,b⟩)):=by
 have c0:W.cell? ⟨g,0,none⟩=some (.slice A l.length c):=(blk_cell h.blk 0).trans rfl
 have c1:W.cell? ⟨g,1,none⟩=some (.int .i64 e):=(blk_cell h.blk 1).trans rfl
 have c2:W.cell? ⟨g,2,none⟩=some (.int .i64 (n:Int)):=(blk_cell h.blk 2).trans rfl
 have hn:=h.hn
 have hl:=h.len
 by_cases hlt:n < l.length
 ·obtain ⟨ad,rfl,t0,t1,t2,t3⟩:=h.tok n hlt
  have hr:Aside0 (pAt e ⟨l.drop n,b⟩=l[n].f3):=⟨by rw [drop_here hlt];rfl⟩
  have d1:decide ((n:Int) < (l.length:Int))=true:=decide_eq_true J7
  have d2:decide (n < l.length)=true:=decide_eq_true hlt
  have d3:(0:Int)≤(n:Int):=by omega
  have d4:(n:Int) < (l.length:Int):=by omega
  rw [hr.out]
  clear h hr t0 t1 t2
  go_enter Tryz.func40,Tryz.ntmps40
  go_wp2
  go_quiet (fail)
  go_wp2
  go_quiet (fail)
  go_wp2
  go_ret
  exact ⟨rfl,J17⟩
 ·have hr:Aside0 (pAt e ⟨l.drop n,b⟩=e):=⟨by rw [List.drop_of_length_le J7];rfl⟩
  have d1:decide ((n:Int) < (l.length:Int))=false:=decide_eq_false J7
  have d2:decide (n < l.length)=false:=decide_eq_false hlt
  rw [hr.out]
  clear h hr
  go_enter Tryz.func40,Tryz.ntmps40
  go_wp2
  go_quiet (fail)
  go_wp2
  go_ret
  exact ⟨rfl,J17⟩
def TakePost (B:Nat) (W:World) (p g:Nat) (A:Option Addr) (c:Nat) (l:List TokS) (e:Int) (n:Nat) (t:TokS) (s:PS) (en:Ending) (W':World):Prop :=
 en = .returned (.agg #[.int .i64 t.f0,.string t.f1,.int .i64 t.f2,.int .i64 t.f3])∧(∃ n',s.r=l.drop n'∧n≤n'∧TK B W' p g A c l e n' s.b)∧Fr W.heap.size g W W'
theorem take_ret {V:World} {tmps:Array Value} {R:Ending→World→Prop} {gb:Nat} {t:TokS} (ht:tmps.getD 4 undef = .pointer (some ⟨gb,0,none⟩)) (hb:V.heap[gb]?=some (.cells #[.int .i64 t.f0,.string t.f1,.int .i64 t.f2,.int .i64 t.f3] 149 (0,0)))
  (h:R (.returned (.agg #[.int .i64 t.f0,.string t.f1,.int .i64 t.f2,.int .i64 t.f3])) V):bodyPost Tryz.prog Tryz.f88 R .ret { tmps:=tmps,defers:=[] } V :=
 bodyPost_ret (results_single rfl (.cell gb _ _ _ _ ht hb Tryz.underlying149 rfl J0 .nil)) rfl h
theorem box_put4 {V:World} {g:Nat} {t:TypeId} {c0 c1 c2 c3:Value} (h:V.heap[g]?=some (.cells #[c0,c1,c2,c3] t (0,0))) (u0 u1 u2 u3:Value) :
  ((((V.setCell ⟨g,0,none⟩ u0).setCell ⟨g,1,none⟩ u1).setCell ⟨g,2,none⟩ u2).setCell ⟨g,3,none⟩ u3).heap[g]?=some (.cells #[u0,u1,u2,u3] t (0,0)) :=
 blk_set (blk_set (blk_set (blk_set h 0 u0) 1 u1) 2 u2) 3 u3
theorem take_fin {B p g c n n':Nat} {W V:World} {A:Option Addr} {l:List TokS} {e:Int} {s:PS} {tmps:Array Value} {gb:Nat} {c0 c1 c2 c3:Value} (t:TokS)
  (HT:TK B V p g A c l e n' s.b) (HF:Fr W.heap.size g W V) (BK:V.heap[gb]?=some (.cells #[c0,c1,c2,c3] 149 (0,0))) (GW:W.heap.size≤gb) (hB:B≤W.heap.size) (ht:tmps.getD 4 undef = .pointer (some ⟨gb,0,none⟩)) (hs:s.r=l.drop n') (hn:n≤n') :
  bodyPost Tryz.prog Tryz.f88 (TakePost B W p g A c l e n t s) .ret { tmps:=tmps,defers:=[] } ((((V.setCell ⟨gb,0,none⟩ (.int .i64 t.f0)).setCell ⟨gb,1,none⟩ (.string t.f1)).setCell ⟨gb,2,none⟩ (.int .i64 t.f2)).setCell ⟨gb,3,none⟩ (.int .i64 t.f3)):=by
 have hq:B≤gb:=Nat.le_trans hB GW
 refine take_ret ht (box_put4 BK _ _ _ _) ⟨rfl,⟨n',hs,hn,?_⟩,?_⟩
 ·exact (((HT.far (q:=⟨gb,0,none⟩) hq _).far (q:=⟨gb,1,none⟩) hq _).far (q:=⟨gb,2,none⟩) hq _).far (q:=⟨gb,3,none⟩) hq _
 ·exact (((HF.far (p:=⟨gb,0,none⟩) GW _).far (p:=⟨gb,1,none⟩) GW _).far (p:=⟨gb,2,none⟩) GW _).far (p:=⟨gb,3,none⟩) GW _
theorem take_finD {B p g c n n':Nat} {W V:World} {A:Option Addr} {l:List TokS} {e:Int} {s:PS} {tmps:Array Value} {gb:Nat} {c0 c1 c2 c3:Value} (t:TokS)
  (HT:TK B V p g A c l e n' s.b) (HF:Fr W.heap.size g W V) (BK:V.heap[gb]?=some (.cells #[c0,c1,c2,c3] 149 (0,0))) (GW:W.heap.size≤gb) (hB:B≤W.heap.size) (ht:tmps.getD 4 undef = .pointer (some ⟨gb,0,none⟩)) (hs:s.r=l.drop n') (hn:n≤n') :
  bodyPost Tryz.prog Tryz.f88 (TakePost B W p g A c l e n t s) .ret { tmps:=tmps,defers:=[] } ((((V.setCell ⟨gb,0,none⟩ (.int .i64 t.f0)).setCell ⟨gb,1,none⟩ (.string t.f1)).setCell ⟨gb,2,none⟩ (.int .i64 t.f2)).setCell ⟨gb,3,none⟩ (.int .i64 t.f3)).drew:=by
 have hq:B≤gb:=Nat.le_trans hB GW
 refine take_ret ht (blk_drew (box_put4 BK _ _ _ _)) ⟨rfl,⟨n',hs,hn,?_⟩,?_⟩
 ·exact ((((HT.far (q:=⟨gb,0,none⟩) hq _).far (q:=⟨gb,1,none⟩) hq _).far (q:=⟨gb,2,none⟩) hq _).far (q:=⟨gb,3,none⟩) hq _).drewN 1
 ·exact Fr.drew <| (((HF.far (p:=⟨gb,0,none⟩) GW _).far (p:=⟨gb,1,none⟩) GW _).far (p:=⟨gb,2,none⟩) GW _).far (p:=⟨gb,3,none⟩) GW _
set_option maxHeartbeats 4000000 in
set_option maxRecDepth 100000 in
theorem take_any {B p g c n:Nat} {W:World} {A:Option Addr} {l:List TokS} {e:Int} {b:Bool} (k:Int) (h:TK B W p g A c l e n b) :
  Calls Tryz.prog 88 #[.pointer (some ⟨g,0,none⟩),.int .i64 k] W (TakePost B W p g A c l e n (pTake k ⟨l.drop n,b⟩).1 (pTake k ⟨l.drop n,b⟩).2):=by
 have HT:=Y0 h
 have HL:=Y0 h.hB
 have hn:=h.hn
 have hl:=h.len
 clear h
 cases b with
 | true =>
  rw [pTake_bad k _ rfl]
  go_enter Tryz.func88,Tryz.ntmps88
  go_wp2_with ((with_reducible refine gate_dst (N:=4) rfl ?_);refine box_event ?hg (N:=4) ?hd (cs:=#[.int .i64 0,.string (⟨#[]⟩:ByteArray),.int .i64 0,.int .i64 0]) (t:=149) ?hr ?_;(case hd=>rfl);(case hg=>rfl);(case hr=>first|(go_simp;done)|(go_simp;rfl));intro gb hg w3 hbox hb;have n1_:=Y0 (TK.below HT.out hb);have n2_:=Y0 (Fr.of_below (g:=g) hb);have n3_:=Y0 hbox;have n4_:=Y0 (Nat.le_of_eq hg.symm);have n5_:=Y0 (show g≠gb from by have:=blk_lt HT.out.blk;omega);clear HT hbox hg;have hbK:=Y0 hb;clear hb;have HT:=n1_;have HF:=n2_;have BK:=n3_;have GW:=n4_;have NB:=n5_;clear n1_ n2_ n3_ n4_ n5_;have hne:=NB.out;have hne':=NB.out.symm;have c0:_=some (Value.slice _ _ _):=(blk_cell HT.out.blk 0).trans rfl;have c1:_=some (Value.int .i64 _):=(blk_cell HT.out.blk 1).trans rfl;have c2:_=some (Value.int .i64 _):=(blk_cell HT.out.blk 2).trans rfl;have c3:_=some (Value.bool _):=(blk_cell HT.out.blk 3).trans rfl;have f2:=blk_frozen HT.out.blk 2;have f3:=blk_frozen HT.out.blk 3;have z0:_=some (Value.int .i64 0):=(blk_cell BK.out 0).trans rfl;have z1:_=some (Value.string (⟨#[]⟩:ByteArray)):=(blk_cell BK.out 1).trans rfl;have z2:_=some (Value.int .i64 0):=(blk_cell BK.out 2).trans rfl;have z3:_=some (Value.int .i64 0):=(blk_cell BK.out 3).trans rfl;have y0:=blk_frozen BK.out 0;have y1:=blk_frozen BK.out 1;have y2:=blk_frozen BK.out 2;have y3:=blk_frozen BK.out 3)
  go_simp
  go_quiet (fail)
  go_wp2
  exact take_fin (n':=n) zT ((HT.out.drewN _).setb true) ((HF.out.drewN _).set_ 3 _) (blk_far (blk_drewN BK.out _) NB.out.symm _) GW.out HL.out rfl rfl (Nat.le_refl _)
 | false =>
  by_cases hlt:n < l.length
  ·have d1:((n:Int) == (l.length:Int))=false:=beq_eq_false_iff_ne.2 J7
   have d2:(n == l.length)=false:=beq_eq_false_iff_ne.2 J7
   have d3:(0:Int)≤(n:Int):=by omega
   have d4:(n:Int) < (l.length:Int):=by omega
   by_cases hk:l[n].f0=k
   ·have e1:pTake k ⟨l.drop n,false⟩=(l[n],⟨l.drop (n + 1),false⟩):=by rw [drop_here hlt,pTake_cons,if_pos hk]
    rw [e1]
    have k1:(l[n].f0 != k)=false:=by rw [bne_eq_false_iff_eq];exact hk
    clear hk e1
    obtain ⟨ad,rfl,t0,t1,t2,t3⟩:=HT.out.tok n hlt
    have HW:=Y0 t0
    clear t0 t1 t2 t3
    go_enter Tryz.func88,Tryz.ntmps88
    go_wp2_with ((((with_reducible refine gate_dst (N:=4) rfl ?_);refine box_event ?hg (N:=4) ?hd (cs:=#[.int .i64 0,.string (⟨#[]⟩:ByteArray),.int .i64 0,.int .i64 0]) (t:=149) ?hr ?_;(case hd=>rfl);(case hg=>rfl);(case hr=>first|(go_simp;done)|(go_simp;rfl));intro gb hg w3 hbox hb;have n1_:=Y0 (TK.below HT.out hb);have n2_:=Y0 (Fr.of_below (g:=g) hb);have n3_:=Y0 hbox;have n4_:=Y0 (Nat.le_of_eq hg.symm);have n5_:=Y0 (show g≠gb from by have:=blk_lt HT.out.blk;omega);clear HT hbox hg;have hbK:=Y0 hb;clear hb;have HT:=n1_;have HF:=n2_;have BK:=n3_;have GW:=n4_;have NB:=n5_;clear n1_ n2_ n3_ n4_ n5_;have hne:=NB.out;have hne':=NB.out.symm;have c0:_=some (Value.slice _ _ _):=(blk_cell HT.out.blk 0).trans rfl;have c1:_=some (Value.int .i64 _):=(blk_cell HT.out.blk 1).trans rfl;have c2:_=some (Value.int .i64 _):=(blk_cell HT.out.blk 2).trans rfl;have c3:_=some (Value.bool _):=(blk_cell HT.out.blk 3).trans rfl;have f2:=blk_frozen HT.out.blk 2;have f3:=blk_frozen HT.out.blk 3;have z0:_=some (Value.int .i64 0):=(blk_cell BK.out 0).trans rfl;have z1:_=some (Value.string (⟨#[]⟩:ByteArray)):=(blk_cell BK.out 1).trans rfl;have z2:_=some (Value.int .i64 0):=(blk_cell BK.out 2).trans rfl;have z3:_=some (Value.int .i64 0):=(blk_cell BK.out 3).trans rfl;have y0:=blk_frozen BK.out 0;have y1:=blk_frozen BK.out 1;have y2:=blk_frozen BK.out 2;have y3:=blk_frozen BK.out 3);have t0:=pw_cell_below hbK.out HW.out))
    go_simp
    go_quiet (fail)
    go_wp2
    have HT1:=(HT.out.drewN nq).setn (n + 1) J7
    rw [show ((n + 1:Nat):Int)=(n:Int) + 1 from by omega] at HT1
    have HF1:=(HF.out.drewN nq).set_ 2 (.int .i64 ((n:Int) + 1))
    have BK1:=blk_far (blk_drewN BK.out nq) (p:=⟨g,2,none⟩) NB.out.symm (.int .i64 ((n:Int) + 1))
    clear t0 HT HF BK c0 c1 c2 c3 f2 f3 z0 z1 z2 z3 y0 y1 y2 y3
    generalize (w3.drewN nq).setCell ⟨g,2,none⟩ (.int .i64 ((n:Int) + 1))=V at *
    have HT:=Y0 HT1
    have HF:=Y0 HF1
    have BK:=Y0 BK1
    clear HT1 HF1 BK1
    obtain ⟨ad2,had,t0,t1,t2,t3⟩:=HT.out.tok n hlt
    cases had
    have c0:_=some (Value.slice _ _ _):=(blk_cell HT.out.blk 0).trans rfl;have c1:_=some (Value.int .i64 _):=(blk_cell HT.out.blk 1).trans rfl;have c2:_=some (Value.int .i64 _):=(blk_cell HT.out.blk 2).trans rfl;have c3:_=some (Value.bool _):=(blk_cell HT.out.blk 3).trans rfl;have f2:=blk_frozen HT.out.blk 2;have f3:=blk_frozen HT.out.blk 3
    replace c2:V.cell? ⟨g,2,none⟩=some (.int .i64 ((n:Int) + 1)):=c2.trans (by rw [show ((n + 1:Nat):Int)=(n:Int) + 1 from by omega])
    have hw1:IntKind.i64.wrap (n:Int)=n:=IntWalk.i64_in _ J7
    have hw2:IntKind.i64.wrap ((n:Int) + 1 - 1)=n:=by rw [show (n:Int) + 1 - 1=n from by omega];exact hw1
    have z0:_=some (Value.int .i64 0):=(blk_cell BK.out 0).trans rfl
    have z1:_=some (Value.string (⟨#[]⟩:ByteArray)):=(blk_cell BK.out 1).trans rfl
    have z2:_=some (Value.int .i64 0):=(blk_cell BK.out 2).trans rfl
    have z3:_=some (Value.int .i64 0):=(blk_cell BK.out 3).trans rfl
    have y0:=blk_frozen BK.out 0
    have y1:=blk_frozen BK.out 1
    have y2:=blk_frozen BK.out 2
    have y3:=blk_frozen BK.out 3
    go_still_tail 11,J0
    change wpList _ _ _ _ _ V.drew
    clear hw1 hw2
    go_wp2
    exact take_finD (n':=n + 1) l[n] HT.out HF.out BK.out GW.out HL.out rfl rfl (Nat.le_succ _)
   ·have e1:pTake k ⟨l.drop n,false⟩=(zT,⟨l.drop n,true⟩):=by rw [drop_here hlt,pTake_cons,if_neg hk]
    rw [e1]
    have k1:(l[n].f0 != k)=true:=bne_iff_ne.2 hk
    clear hk e1
    obtain ⟨ad,rfl,t0,t1,t2,t3⟩:=HT.out.tok n hlt
    have HW:=Y0 t0
    clear t0 t1 t2 t3
    go_enter Tryz.func88,Tryz.ntmps88
    go_wp2_with ((((with_reducible refine gate_dst (N:=4) rfl ?_);refine box_event ?hg (N:=4) ?hd (cs:=#[.int .i64 0,.string (⟨#[]⟩:ByteArray),.int .i64 0,.int .i64 0]) (t:=149) ?hr ?_;(case hd=>rfl);(case hg=>rfl);(case hr=>first|(go_simp;done)|(go_simp;rfl));intro gb hg w3 hbox hb;have n1_:=Y0 (TK.below HT.out hb);have n2_:=Y0 (Fr.of_below (g:=g) hb);have n3_:=Y0 hbox;have n4_:=Y0 (Nat.le_of_eq hg.symm);have n5_:=Y0 (show g≠gb from by have:=blk_lt HT.out.blk;omega);clear HT hbox hg;have hbK:=Y0 hb;clear hb;have HT:=n1_;have HF:=n2_;have BK:=n3_;have GW:=n4_;have NB:=n5_;clear n1_ n2_ n3_ n4_ n5_;have hne:=NB.out;have hne':=NB.out.symm;have c0:_=some (Value.slice _ _ _):=(blk_cell HT.out.blk 0).trans rfl;have c1:_=some (Value.int .i64 _):=(blk_cell HT.out.blk 1).trans rfl;have c2:_=some (Value.int .i64 _):=(blk_cell HT.out.blk 2).trans rfl;have c3:_=some (Value.bool _):=(blk_cell HT.out.blk 3).trans rfl;have f2:=blk_frozen HT.out.blk 2;have f3:=blk_frozen HT.out.blk 3;have z0:_=some (Value.int .i64 0):=(blk_cell BK.out 0).trans rfl;have z1:_=some (Value.string (⟨#[]⟩:ByteArray)):=(blk_cell BK.out 1).trans rfl;have z2:_=some (Value.int .i64 0):=(blk_cell BK.out 2).trans rfl;have z3:_=some (Value.int .i64 0):=(blk_cell BK.out 3).trans rfl;have y0:=blk_frozen BK.out 0;have y1:=blk_frozen BK.out 1;have y2:=blk_frozen BK.out 2;have y3:=blk_frozen BK.out 3);have t0:=pw_cell_below hbK.out HW.out))
    go_simp
    go_quiet (fail)
    go_wp2
    exact take_fin (n':=n) zT ((HT.out.drewN _).setb true) ((HF.out.drewN _).set_ 3 _) (blk_far (blk_drewN BK.out _) NB.out.symm _) GW.out HL.out rfl rfl (Nat.le_refl _)
  ·have d1:((n:Int) == (l.length:Int))=true:=beq_iff_eq.2 J7
   have d2:(n == l.length)=true:=beq_iff_eq.2 J7
   have e1:pTake k ⟨l.drop n,false⟩=(zT,⟨l.drop n,true⟩):=by rw [List.drop_of_length_le J7,pTake_nil]
   rw [e1]
   clear e1
   go_enter Tryz.func88,Tryz.ntmps88
   go_wp2_with ((with_reducible refine gate_dst (N:=4) rfl ?_);refine box_event ?hg (N:=4) ?hd (cs:=#[.int .i64 0,.string (⟨#[]⟩:ByteArray),.int .i64 0,.int .i64 0]) (t:=149) ?hr ?_;(case hd=>rfl);(case hg=>rfl);(case hr=>first|(go_simp;done)|(go_simp;rfl));intro gb hg w3 hbox hb;have n1_:=Y0 (TK.below HT.out hb);have n2_:=Y0 (Fr.of_below (g:=g) hb);have n3_:=Y0 hbox;have n4_:=Y0 (Nat.le_of_eq hg.symm);have n5_:=Y0 (show g≠gb from by have:=blk_lt HT.out.blk;omega);clear HT hbox hg;have hbK:=Y0 hb;clear hb;have HT:=n1_;have HF:=n2_;have BK:=n3_;have GW:=n4_;have NB:=n5_;clear n1_ n2_ n3_ n4_ n5_;have hne:=NB.out;have hne':=NB.out.symm;have c0:_=some (Value.slice _ _ _):=(blk_cell HT.out.blk 0).trans rfl;have c1:_=some (Value.int .i64 _):=(blk_cell HT.out.blk 1).trans rfl;have c2:_=some (Value.int .i64 _):=(blk_cell HT.out.blk 2).trans rfl;have c3:_=some (Value.bool _):=(blk_cell HT.out.blk 3).trans rfl;have f2:=blk_frozen HT.out.blk 2;have f3:=blk_frozen HT.out.blk 3;have z0:_=some (Value.int .i64 0):=(blk_cell BK.out 0).trans rfl;have z1:_=some (Value.string (⟨#[]⟩:ByteArray)):=(blk_cell BK.out 1).trans rfl;have z2:_=some (Value.int .i64 0):=(blk_cell BK.out 2).trans rfl;have z3:_=some (Value.int .i64 0):=(blk_cell BK.out 3).trans rfl;have y0:=blk_frozen BK.out 0;have y1:=blk_frozen BK.out 1;have y2:=blk_frozen BK.out 2;have y3:=blk_frozen BK.out 3)
   go_simp
   go_quiet (fail)
   go_wp2
   exact take_fin (n':=n) zT ((HT.out.drewN _).setb true) ((HF.out.drewN _).set_ 3 _) (blk_far (blk_drewN BK.out _) NB.out.symm _) GW.out HL.out rfl rfl (Nat.le_refl _)
def isN (j:Nat) (k:Int) (x:List UInt8) (l:List TokS) (n:Nat) (b:Bool):Bool:=if b=true then false else match l[n + j]? with
 | some t=>isT k x t
 | none=>false
theorem isN_eq (j:Nat) (k:Int) (x:List UInt8) (l:List TokS) (n:Nat) (b:Bool):pIs j k x ⟨l.drop n,b⟩=isN j k x l n b:=by
 unfold pIs isN
 rw [List.getElem?_drop]
 try rfl
def IsPost (W:World) (r:Bool) (e:Ending) (W':World):Prop:=e = .returned (.bool r)∧Drawn0 W W'
set_option maxHeartbeats 4000000 in
set_option maxRecDepth 100000 in
theorem is_any {B p g c n:Nat} {W:World} {A:Option Addr} {l:List TokS} {e:Int} {b:Bool} (j:Nat) (k:Int) (x:ByteArray) (hj:j≤1) (h:TK B W p g A c l e n b) :
  Calls Tryz.prog 37 #[.pointer (some ⟨g,0,none⟩),.int .i64 (j:Int),.int .i64 k,.string x] W (IsPost W (pIs j k (bl x) ⟨l.drop n,b⟩)):=by
 rw [isN_eq]
 have hn:=h.hn
 have hl:=h.len
 have HT:=Y0 h
 clear h
 cases b with
 | true =>
  have c0:_=some (Value.slice _ _ _):=(blk_cell HT.out.blk 0).trans rfl;have c1:_=some (Value.int .i64 _):=(blk_cell HT.out.blk 1).trans rfl;have c2:_=some (Value.int .i64 _):=(blk_cell HT.out.blk 2).trans rfl;have c3:_=some (Value.bool _):=(blk_cell HT.out.blk 3).trans rfl;have f2:=blk_frozen HT.out.blk 2;have f3:=blk_frozen HT.out.blk 3
  clear HT
  go_enter Tryz.func37,Tryz.ntmps37
  go_wp2
  go_ret
  exact ⟨rfl,J17⟩
 | false =>
  by_cases hlt:n + j < l.length
  ·obtain ⟨ad,rfl,t0,t1,t2,t3⟩:=HT.out.tok (n + j) hlt
   have hr:Aside0 (isN j k (bl x) l n false=(l[n + j].f0 == k && bl l[n + j].f1 == bl x)):=⟨by
    have:l[n + j]?=some l[n + j]:=by simp [hlt]
    unfold isN
    rw [if_neg Bool.false_ne_true,this]
    rfl⟩
   rw [hr.out]
   clear hr
   have d1:decide ((n:Int) + (j:Int) < (l.length:Int))=true:=decide_eq_true J7
   have d2:decide (n + j < l.length)=true:=decide_eq_true hlt
   have d3:(0:Int)≤(n:Int) + (j:Int):=by omega
   have d4:(n:Int) + (j:Int) < (l.length:Int):=by omega
   have d5:((n:Int) + (j:Int)).toNat=n + j:=by omega
   have c0:_=some (Value.slice _ _ _):=(blk_cell HT.out.blk 0).trans rfl;have c1:_=some (Value.int .i64 _):=(blk_cell HT.out.blk 1).trans rfl;have c2:_=some (Value.int .i64 _):=(blk_cell HT.out.blk 2).trans rfl;have c3:_=some (Value.bool _):=(blk_cell HT.out.blk 3).trans rfl;have f2:=blk_frozen HT.out.blk 2;have f3:=blk_frozen HT.out.blk 3
   clear HT
   by_cases hk:l[n + j].f0=k
   ·have k1:(l[n + j].f0 == k)=true:=beq_iff_eq.2 hk
    rw [k1,Bool.true_and]
    by_cases hx:bl l[n + j].f1=bl x
    ·have x1:(l[n + j].f1.toList == x.toList)=true:=by rw [toList_bl,toList_bl];exact beq_iff_eq.2 hx
     have x2:Aside0 ((bl l[n + j].f1 == bl x)=true):=⟨beq_iff_eq.2 hx⟩
     clear hx hk
     rw [x2.out]
     go_enter Tryz.func37,Tryz.ntmps37
     go_wp2
     go_ret
     exact ⟨rfl,J17⟩
    ·have x1:(l[n + j].f1.toList == x.toList)=false:=by rw [toList_bl,toList_bl];exact beq_eq_false_iff_ne.2 hx
     have x2:Aside0 ((bl l[n + j].f1 == bl x)=false):=⟨beq_eq_false_iff_ne.2 hx⟩
     clear hx hk
     rw [x2.out]
     go_enter Tryz.func37,Tryz.ntmps37
     go_wp2
     go_ret
     exact ⟨rfl,J17⟩
   ·have k1:(l[n + j].f0 == k)=false:=beq_eq_false_iff_ne.2 hk
    clear hk
    rw [k1,Bool.false_and]
    go_enter Tryz.func37,Tryz.ntmps37
    go_wp2
    go_ret
    exact ⟨rfl,J17⟩
  ·have hr:Aside0 (isN j k (bl x) l n false=false):=⟨by
    unfold isN
    rw [if_neg Bool.false_ne_true,List.getElem?_eq_none J7]⟩
   rw [hr.out]
   clear hr
   have d1:decide ((n:Int) + (j:Int) < (l.length:Int))=false:=decide_eq_false J7
   have d2:decide (n + j < l.length)=false:=decide_eq_false hlt
   have c0:_=some (Value.slice _ _ _):=(blk_cell HT.out.blk 0).trans rfl;have c1:_=some (Value.int .i64 _):=(blk_cell HT.out.blk 1).trans rfl;have c2:_=some (Value.int .i64 _):=(blk_cell HT.out.blk 2).trans rfl;have c3:_=some (Value.bool _):=(blk_cell HT.out.blk 3).trans rfl;have f2:=blk_frozen HT.out.blk 2;have f3:=blk_frozen HT.out.blk 3
   clear HT
   go_enter Tryz.func37,Tryz.ntmps37
   go_wp2
   go_ret
   exact ⟨rfl,J17⟩
end Go.Proofs.YtddpjjhekhompaaGreatDoor.P
