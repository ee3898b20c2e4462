/- Part 10 of what the law TableMore leans on: contracts of the functions that it reaches, and plain lemmas. No condition. -/
import Derived.Test.YtddpjjhekhompaaGreatDoorMTableMore9
namespace Go.Proofs.YtddpjjhekhompaaGreatDoor.P
open Go.RowKit Go.Proofs.YtddpjjhekhompaaGreatDoorW.PrintWords Go.Proofs.YtddpjjhekhompaaGreatDoorW.PrintLast Go.Proofs.YtddpjjhekhompaaGreatDoorW.PrintMore
attribute [local go_sem] max2_int max_two
set_option linter.unusedVariables false
set_option linter.unusedSimpArgs false
mutual
def trufflelaw08_TableMore.j0:Nat→ByteArray→Bool→Bool→List (S34)→List (S68)→List (S57)→List (S119)→Option (Bool)
 | 0,_,_,_,_,_,_,_=>none
 | k + 1,x1,x5,x45,x871000,x871001,x882000,x882001=>if x45=true then (some x5) else ((table_Type.f x1).bind fun bt882=>(if ([]:List (S34)).length + x871000.length < 1466015503701 then ((some (([]:List (S34))++x871000:List (S34))).bind fun y884=>((some (([(⟨x1,([]:List (S36)),([]:List ByteArray),([]:List Int),0⟩:S34)]:List (S34)):List (S34))).bind fun y887=>(if y884.length + y887.length < 1466015503701 then ((table_Resolve.f (y884++y887) x871001).bind fun bt894=>(trufflelaw08_TableMore.l0 k x1 bt894.2.2.2 bt882.2 0 x871000 x871001 x882000 x882001 bt894.1 bt894.2.1)) else (none)))) else (none)))
def trufflelaw08_TableMore.l0:Nat→ByteArray→Int→Bool→Int→List (S34)→List (S68)→List (S57)→List (S119)→List (S57)→List (S119)→Option (Bool)
 | 0,_,_,_,_,_,_,_,_,_,_=>none
 | k + 1,x1,x15,x16,x17,x871000,x871001,x882000,x882001,x903000,x903001=>if x17 < (x871000.length:Int) then (if x16=true then (trufflelaw08_TableMore.l0 k x1 x15 true (wrap64 (x17 + 1)) x871000 x871001 x882000 x882001 x903000 x903001) else (if 0≤x17 then (trufflelaw08_TableMore.l0 k x1 x15 (((rd_T34 x871000 x17).f0).toList == x1.toList) (wrap64 (x17 + 1)) x871000 x871001 x882000 x882001 x903000 x903001) else (none))) else (trufflelaw08_TableMore.l1 k x1 x15 x16 0 x871000 x871001 x882000 x882001 x903000 x903001)
def trufflelaw08_TableMore.l1:Nat→ByteArray→Int→Bool→Int→List (S34)→List (S68)→List (S57)→List (S119)→List (S57)→List (S119)→Option (Bool)
 | 0,_,_,_,_,_,_,_,_,_,_=>none
 | k + 1,x1,x15,x16,x18,x871000,x871001,x882000,x882001,x903000,x903001=>if x18 < (x871001.length:Int) then (if x16=true then (trufflelaw08_TableMore.l1 k x1 x15 true (wrap64 (x18 + 1)) x871000 x871001 x882000 x882001 x903000 x903001) else (if 0≤x18 then (trufflelaw08_TableMore.l1 k x1 x15 (((rd_T68 x871001 x18).f0).toList == x1.toList) (wrap64 (x18 + 1)) x871000 x871001 x882000 x882001 x903000 x903001) else (none))) else (if x16=true then (trufflelaw08_TableMore.j3 k x1 x15 x16 true x871000 x871001 x882000 x882001 x903000 x903001) else (trufflelaw08_TableMore.j3 k x1 x15 x16 (x15 != 0) x871000 x871001 x882000 x882001 x903000 x903001))
def trufflelaw08_TableMore.j3:Nat→ByteArray→Int→Bool→Bool→List (S34)→List (S68)→List (S57)→List (S119)→List (S57)→List (S119)→Option (Bool)
 | 0,_,_,_,_,_,_,_,_,_,_=>none
 | k + 1,x1,x15,x16,x109,x871000,x871001,x882000,x882001,x903000,x903001=>if x109=true then (if x16=true then (some (x15 == 4)) else (some false)) else ((table_Root.f x903000 x903001 x1).bind fun bt905=>(if (x903000.length:Int)=0 then (some false) else (if 0≤(wrap64 ((x903000.length:Int) - 1)) then (if (wrap64 ((x903000.length:Int) - 1))≤(x903000.length:Int) then (if bt905.2=true then (if bt905.1=(x871000.length:Int) then ((table_Same.f x882000 x882001 (x903000.take ((wrap64 ((x903000.length:Int) - 1)):Int).toNat) x903001).bind fun t910=>(some t910)) else (some false)) else (some false)) else (none)) else (none))))
end
def trufflelaw08_TableMore.f (k:Nat) (l0_0:List (S34)) (l0_1:List (S68)) (a1:ByteArray):Option (Bool):=(trufflelaw08_awake.f).bind fun t871=>((trufflelaw08_few.f k l0_0 l0_1).bind fun t872=>((table_Resolve.f l0_0 l0_1).bind fun bt873=>(if t871=true then (if t872=true then (if bt873.2.2.2=0 then (trufflelaw08_TableMore.j0 k a1 t871 (decide ((l0_0.length:Int) ≥ 20)) l0_0 l0_1 bt873.1 bt873.2.1) else (trufflelaw08_TableMore.j0 k a1 t871 true l0_0 l0_1 bt873.1 bt873.2.1)) else (trufflelaw08_TableMore.j0 k a1 t871 true l0_0 l0_1 bt873.1 bt873.2.1)) else (trufflelaw08_TableMore.j0 k a1 t871 true l0_0 l0_1 bt873.1 bt873.2.1))))
def trufflelaw08_TableMore.T7:Bool × List (List Nat × List Nat):=(true,[([],[]),([0],[0]),([1],[1]),([],[]),([3],[3]),([4],[4]),([2,5,2],[2,5]),([],[]),([7],[7]),([6,8],[6,8]),([],[]),([10,9,6,0,1,2,3,4,5,6,7,8,9,10],[9,10])])
def trufflelaw08_TableMore.B7:List Nat:=[0,1,3,0,8,24,63,0,128,511,0,2047]
theorem trufflelaw08_TableMore.tab7:rtab .any (opsOf Tryz.f10 7)=trufflelaw08_TableMore.T7:=by kernel_rfl
theorem trufflelaw08_TableMore.bits7:waitsOk trufflelaw08_TableMore.T7.2 trufflelaw08_TableMore.B7=true:=by kernel_rfl
set_option maxHeartbeats 8000000 in
set_option maxRecDepth 100000 in
theorem trufflelaw08_TableMore.calls (k:Nat) (A0_0:Option Addr) (c0_0:Nat) (l0_0:List (S34)) (A0_1:Option Addr) (c0_1:Nat) (l0_1:List (S68)) (a1:ByteArray) (w:World) (hG:GInv w) (hr0_0:Kd.C k34 w A0_0 l0_0.length l0_0) (hc0_0:l0_0.length≤c0_0) (hr0_1:Kd.C k68 w A0_1 l0_1.length l0_1) (hc0_1:l0_1.length≤c0_1) (h:trufflelaw08_TableMore.f k l0_0 l0_1 a1=some true) :
  Calls Tryz.prog 10 #[.agg #[.slice A0_0 l0_0.length c0_0,.slice A0_1 l0_1.length c0_1],.string a1] w fun e w'=>e = .returned (.bool true)∧Below w.heap.size w w':=by
 have hu26:=Tryz.underlying26
 have hu46:=Tryz.underlying46
 have hu34:=Tryz.underlying34
 have HR0_0:=Y0 hr0_0
 have HC0_0:=Y0 hc0_0
 clear hr0_0 hc0_0
 have HR0_1:=Y0 hr0_1
 have HC0_1:=Y0 hc0_1
 clear hr0_1 hc0_1
 have HB:=Y0 (Below.refl w.heap.size w)
 have H:((trufflelaw08_awake.f).bind fun t871=>((trufflelaw08_few.f k l0_0 l0_1).bind fun t872=>((table_Resolve.f l0_0 l0_1).bind fun bt873=>(if t871=true then (if t872=true then (if bt873.2.2.2=0 then (trufflelaw08_TableMore.j0 k a1 t871 (decide ((l0_0.length:Int) ≥ 20)) l0_0 l0_1 bt873.1 bt873.2.1) else (trufflelaw08_TableMore.j0 k a1 t871 true l0_0 l0_1 bt873.1 bt873.2.1)) else (trufflelaw08_TableMore.j0 k a1 t871 true l0_0 l0_1 bt873.1 bt873.2.1)) else (trufflelaw08_TableMore.j0 k a1 t871 true l0_0 l0_1 bt873.1 bt873.2.1)))))=some true:=h
 clear h
 replace H:=Y17.mp H
 obtain ⟨t871,A30,H⟩:=H
 try dsimp only at H
 have A3:=Y0 A30
 clear A30
 replace H:=Y17.mp H
 obtain ⟨t872,A40,H⟩:=H
 try dsimp only at H
 have A4:=Y0 A40
 clear A40
 replace H:=Y17.mp H
 obtain ⟨⟨t873,t876,t879,t880⟩,A50,H⟩:=H
 try dsimp only at H
 have A5:=Y0 A50
 clear A50
 have HC6:=Y0 H
 clear H
 go_enter Tryz.func10,Tryz.ntmps10
 go_upto_region 4 with (first|((with_reducible refine gate_dst (N:=2) rfl ?_);(try (refine gate_guard J19 ?_;dsimp only));refine box_event ?hg (N:=2) ?hd (cs:=#[.slice A0_0 l0_0.length c0_0,.slice A0_1 l0_1.length c0_1]) (t:=26) ?hr ?_;(case hd=>rfl);(case hg=>rfl);(case hr=>first|(go_simp;done)|(go_simp;rfl));intro gb870 hg w7 hbox hb;have n0_:=Y0 (below_step J4 hb);have n1_:=Y0 (hbox);have n2_:=Y0 ((by rw [hg];exact (below_size J4):w.heap.size≤gb870));have n3_:=Y0 ((by rw [hg];exact (below_size J4):w.heap.size≤gb870));clear HB;have HB:=n0_;have BK870:=n1_;have GW870:=n2_;have GE870:=n3_;clear n0_ n1_ n2_ n3_;clear hb hbox hg)|((with_reducible refine gate_callee (f:=16) rfl ?_);refine goesL_ (some 21) rfl rfl Tryz.func16 J0 rfl #[] rfl J1 ?_;(with_reducible refine (trufflelaw08_awake.calls  t871 _ ?side1 A3.out).mono ?_);(case side1=>exact hG.below J51);rintro e w8 ⟨rfl,hb⟩;refine ⟨_,rfl,?_⟩;have n0_:=Y0 (blk_below (g:=gb870) (o:=.cells #[.slice A0_0 l0_0.length c0_0,.slice A0_1 l0_1.length c0_1] 26 (0,0)) J5 hb);have n1_:=Y0 (below_step J51 hb);clear BK870;clear HB;have BK870:=n0_;have HB:=n1_;clear n0_ n1_;(try clear hb);(try clear hb2);(try clear hk);(try clear hi);have ⟨hcz9_0,hcz9_1,hfz9_0,hfz9_1⟩:=sq_box2 BK870.out)|((with_reducible refine gate_callee (f:=17) rfl ?_);refine goesL_ (some 23) rfl rfl Tryz.func17 J0 rfl #[.agg #[.slice A0_0 l0_0.length c0_0,.slice A0_1 l0_1.length c0_1]] rfl J1 ?_;(with_reducible refine (trufflelaw08_few.calls k _ _ l0_0 _ _ l0_1 t872 _ ?side1 ?side2 ?side3 ?side4 A4.out).mono ?_);(case side1=>repeat (first|exact (Kd.C_below HR0_0.out HB.out)|(with_reducible refine Y8 ?_ _)|(with_reducible refine Kd.C_drewN ?_ _)|(with_reducible refine Kd.C_drew ?_)));(case side2=>exact HC0_0.out);(case side3=>repeat (first|exact (Kd.C_below HR0_1.out HB.out)|(with_reducible refine Y8 ?_ _)|(with_reducible refine Kd.C_drewN ?_ _)|(with_reducible refine Kd.C_drew ?_)));(case side4=>exact HC0_1.out);rintro e w10 ⟨rfl,hb⟩;refine ⟨_,rfl,?_⟩;have n0_:=Y0 (blk_below (g:=gb870) (o:=.cells #[.slice A0_0 l0_0.length c0_0,.slice A0_1 l0_1.length c0_1] 26 (0,0)) J5 hb);have n1_:=Y0 (below_step J51 hb);clear BK870;clear HB;have BK870:=n0_;have HB:=n1_;clear n0_ n1_;(try clear hb);(try clear hb2);(try clear hk);(try clear hi);have ⟨hcz11_0,hcz11_1,hfz11_0,hfz11_1⟩:=sq_box2 BK870.out)|((with_reducible refine gate_callee (f:=18) rfl ?_);refine goesL_ (some 26) rfl rfl Tryz.func18 J0 rfl #[.agg #[.slice A0_0 l0_0.length c0_0,.slice A0_1 l0_1.length c0_1]] rfl J1 ?_;(with_reducible refine (table_Resolve.calls _ _ l0_0 _ _ l0_1 t873 t876 t879 t880 _ ?side1 ?side2 ?side3 ?side4 A5.out).mono ?_);(case side1=>repeat (first|exact (Kd.C_below HR0_0.out HB.out)|(with_reducible refine Y8 ?_ _)|(with_reducible refine Kd.C_drewN ?_ _)|(with_reducible refine Kd.C_drew ?_)));(case side2=>exact HC0_0.out);(case side3=>repeat (first|exact (Kd.C_below HR0_1.out HB.out)|(with_reducible refine Y8 ?_ _)|(with_reducible refine Kd.C_drewN ?_ _)|(with_reducible refine Kd.C_drew ?_)));(case side4=>exact HC0_1.out);rintro e w12 ⟨v874,v877,rfl,ho0,ho1,hb⟩;refine ⟨_,rfl,?_⟩;have n0_:=Y0 (Kd.R_lower ho0 (below_size J51));have n1_:=Y0 (Kd.R_lower ho1 (below_size J51));have n2_:=Y0 (blk_below (g:=gb870) (o:=.cells #[.slice A0_0 l0_0.length c0_0,.slice A0_1 l0_1.length c0_1] 26 (0,0)) J5 hb);have n3_:=Y0 (below_step J51 hb);clear BK870;clear HB;have HO875:=n0_;have HO878:=n1_;have BK870:=n2_;have HB:=n3_;clear n0_ n1_ n2_ n3_;(try clear hb);(try clear hb2);(try clear hk);(try clear hi);(try clear ho0);(try clear ho1))|((with_reducible refine gate_dst (N:=7) rfl ?_);(try (refine gate_guard J19 ?_;dsimp only));refine box_event ?hg (N:=7) ?hd (cs:=#[.slice none 0 0,.slice none 0 0]) (t:=46) ?hr ?_;(case hd=>rfl);(case hg=>rfl);(case hr=>first|(go_simp;done)|(go_simp;rfl));intro gb881 hg w13 hbox hb;have n0_:=Y0 (Kd.R_below (by (with_reducible repeat (first|apply Y5|apply Y6|apply Y7));exact HO875.out) hb);have n1_:=Y0 (Kd.R_below (by (with_reducible repeat (first|apply Y5|apply Y6|apply Y7));exact HO878.out) hb);have n2_:=Y0 (blk_below (g:=gb870) (o:=.cells #[.slice A0_0 l0_0.length c0_0,.slice A0_1 l0_1.length c0_1] 26 (0,0)) J5 hb);have n3_:=Y0 (below_step J51 hb);have n4_:=Y0 (hbox);have n5_:=Y0 ((by rw [hg];exact (below_size J51):w.heap.size≤gb881));have n6_:=Y0 ((by rw [hg];exact (below_size J51):w.heap.size≤gb881));have n7_:=Y0 ((by rw [hg];exact Nat.ne_of_lt (blk_lt (g:=gb870) (o:=.cells #[.slice A0_0 l0_0.length c0_0,.slice A0_1 l0_1.length c0_1] 26 (0,0)) J5):gb870≠gb881));have n8_:=Y0 ((by rw [hg];exact Nat.ne_of_gt (blk_lt (g:=gb870) (o:=.cells #[.slice A0_0 l0_0.length c0_0,.slice A0_1 l0_1.length c0_1] 26 (0,0)) J5):gb881≠gb870));clear HO875;clear HO878;clear BK870;clear HB;have HO875:=n0_;have HO878:=n1_;have BK870:=n2_;have HB:=n3_;have BK881:=n4_;have GW881:=n5_;have GE881:=n6_;have NB870_881:=n7_;have NB881_870:=n8_;clear n0_ n1_ n2_ n3_ n4_ n5_ n6_ n7_ n8_;clear hb hbox hg;obtain ⟨Ao14,co14,eo14⟩:=Kd.R_slice HO875.out;subst eo14;have hnb15:=NB881_870.out;have hnc15:=NB870_881.out;have ⟨hcz16_0,hcz16_1,hfz16_0,hfz16_1⟩:=sq_box2 BK881.out;obtain ⟨Ao17,co17,eo17⟩:=Kd.R_slice HO878.out;subst eo17))
 (try simp only [Act.put,Y14,Y15,Y16])
 go_cut [45] (fun v45 wc=>∃ (kq:Nat) (x45_5:Bool),v45 = .bool x45_5∧Aside0 (trufflelaw08_TableMore.j0 kq a1 t871 x45_5 l0_0 l0_1 t873 t876=some true)∧Aside0 (kq≤k)∧Aside0 (Kd.R k57 57 wc w.heap.size (fun _=>True) (.slice Ao14 t873.length co14) t873)∧Aside0 (Kd.R k119 119 wc w.heap.size (fun _=>True) (.slice Ao17 t876.length co17) t876)∧Aside0 (wc.heap[gb870]?=some (.cells #[(.slice A0_0 l0_0.length c0_0),(.slice A0_1 l0_1.length c0_1)] 26 (0,0)))∧Aside0 (wc.heap[gb881]?=some (.cells #[(.slice Ao14 t873.length co14),(.slice Ao17 t876.length co17)] 46 (0,0)))∧Aside0 (Below w.heap.size w wc))
 case first =>
  have H:=HC6.out
  clear HC6
  by_cases c18:t871=true
  rotate_left
  ·replace c18:=Bool.eq_false_iff.mpr c18
   subst c18
   rw [if_neg (show ¬ (false=true) by decide)] at H
   have H':=Y0 H
   clear H
   go_wp2
   go_meet
   case rel=>exact ⟨_,(true),J12,H',⟨J79⟩,⟨J44⟩,⟨J43⟩,⟨J49⟩,⟨J45⟩,⟨J6⟩⟩
  subst c18
  rw [if_pos rfl] at H
  by_cases c19:t872=true
  rotate_left
  ·replace c19:=Bool.eq_false_iff.mpr c19
   subst c19
   rw [if_neg (show ¬ (false=true) by decide)] at H
   have H':=Y0 H
   clear H
   go_wp2
   go_meet
   case rel=>exact ⟨_,(true),J12,H',⟨J79⟩,⟨J44⟩,⟨J43⟩,⟨J49⟩,⟨J45⟩,⟨J6⟩⟩
  subst c19
  rw [if_pos rfl] at H
  by_cases c20:t880=0
  rotate_left
  ·rw [if_neg c20] at H
   have c20b0:(t880 == 0)=false:=beq_eq_false_iff_ne.mpr c20
   have c20b1:(t880 != 0)=true:=bne_iff_ne.mpr c20
   (first|rw [c20b0]|(simp only [i64_w];rw [c20b0])|skip)
   have H':=Y0 H
   clear H
   go_wp2
   go_meet
   case rel=>exact ⟨_,(true),J12,H',⟨J79⟩,⟨J44⟩,⟨J43⟩,⟨J49⟩,⟨J45⟩,⟨J6⟩⟩
  rw [if_pos c20] at H
  have c20b0:(t880 == 0)=true:=beq_iff_eq.mpr c20
  have c20b1:(t880 != 0)=false:=bne_eq_false_iff_eq.mpr c20
  clear c20
  (first|rw [c20b0]|(simp only [i64_w];rw [c20b0])|skip)
  have H':=Y0 H
  clear H
  have hnb21:=NB870_881.out
  have hnc21:=NB881_870.out
  have ⟨hcz22_0,hcz22_1,hfz22_0,hfz22_1⟩:=sq_box2 BK870.out
  go_wp2
  go_meet
  case rel=>exact ⟨_,(decide ((l0_0.length:Int) ≥ 20)),J12,H',⟨J79⟩,⟨J44⟩,⟨J43⟩,⟨J49⟩,⟨J45⟩,⟨J6⟩⟩
 case rest =>
  clear HC6
  obtain ⟨kq,x45_5,rfl,HA,HJ5,HO_882000,HO_882001,BK870,BK881,HB⟩:=hcut
  cases kq with
  | zero=>exact absurd HA.out (by simp [trufflelaw08_TableMore.j0])
  | succ kj5 =>
   have H:=HA.out
   clear HA
   simp only [trufflelaw08_TableMore.j0] at H
   by_cases c23:x45_5=true
   ·subst c23
    rw [if_pos rfl] at H
    have hv_:=Option.some.inj H
    go_wp2
    go_ret
    exact ⟨J114,J6⟩
   replace c23:=Bool.eq_false_iff.mpr c23
   subst c23
   rw [if_neg (show ¬ (false=true) by decide)] at H
   replace H:=Y17.mp H
   obtain ⟨⟨t882,t883⟩,A240,H⟩:=H
   try dsimp only at H
   have A24:=Y0 A240
   clear A240
   by_cases c25:([]:List (S34)).length + l0_0.length < 1466015503701
   rotate_left
   ·rw [if_neg c25] at H
    exact absurd H J53
   rw [if_pos c25] at H
   have LMc25:=Y0 c25
   clear c25
   obtain ⟨y884,hy884⟩:∃ y_:List (S34),y_=(([]:List (S34))++l0_0):=⟨_,rfl⟩
   replace H:((some (([(⟨a1,([]:List (S36)),([]:List ByteArray),([]:List Int),0⟩:S34)]:List (S34)):List (S34))).bind fun y887=>(if y884.length + y887.length < 1466015503701 then ((table_Resolve.f (y884++y887) l0_1).bind fun bt894=>(trufflelaw08_TableMore.l0 kj5 a1 bt894.2.2.2 t883 0 l0_0 l0_1 t873 t876 bt894.1 bt894.2.1)) else (none)))=some true:=by first|(rw [hy884];with_reducible exact H)|(have H2_:=(Option.bind_some _ _).symm.trans H;rw [hy884];with_reducible exact H2_)|(have H2_:=(Option.bind_some _ _).symm.trans H;with_reducible exact H2_)|with_reducible exact H|(rw [hy884];exact H)|exact H
   have Ny884:=Y0 hy884
   clear hy884
   obtain ⟨y887,hy887⟩:∃ y_:List (S34),y_=(([(⟨a1,([]:List (S36)),([]:List ByteArray),([]:List Int),0⟩:S34)]:List (S34))):=⟨_,rfl⟩
   replace H:(if y884.length + y887.length < 1466015503701 then ((table_Resolve.f (y884++y887) l0_1).bind fun bt894=>(trufflelaw08_TableMore.l0 kj5 a1 bt894.2.2.2 t883 0 l0_0 l0_1 t873 t876 bt894.1 bt894.2.1)) else (none))=some true:=by first|(rw [hy887];with_reducible exact H)|(have H2_:=(Option.bind_some _ _).symm.trans H;rw [hy887];with_reducible exact H2_)|(have H2_:=(Option.bind_some _ _).symm.trans H;with_reducible exact H2_)|with_reducible exact H|(rw [hy887];exact H)|exact H
   have Ny887:=Y0 hy887
   clear hy887
   by_cases c26:y884.length + y887.length < 1466015503701
   rotate_left
   ·rw [if_neg c26] at H
    exact absurd H J53
   rw [if_pos c26] at H
   have LMc26:=Y0 c26
   clear c26
   obtain ⟨y890,hy890⟩:∃ y_:List (S34),y_=(y884++y887):=⟨_,rfl⟩
   replace H:((table_Resolve.f y890 l0_1).bind fun bt894=>(trufflelaw08_TableMore.l0 kj5 a1 bt894.2.2.2 t883 0 l0_0 l0_1 t873 t876 bt894.1 bt894.2.1))=some true:=by first|(rw [hy890];with_reducible exact H)|(have H2_:=(Option.bind_some _ _).symm.trans H;rw [hy890];with_reducible exact H2_)|(have H2_:=(Option.bind_some _ _).symm.trans H;with_reducible exact H2_)|with_reducible exact H|(rw [hy890];exact H)|exact H
   have Ny890:=Y0 hy890
   clear hy890
   replace H:=Y17.mp H
   obtain ⟨⟨t894,t897,t900,t901⟩,A270,H⟩:=H
   try dsimp only at H
   have A27:=Y0 A270
   clear A270
   have H':=Y0 H
   clear H
   try go_wp2_with (first|((with_reducible refine gate_callee (f:=32) rfl ?_);refine goesL_ (some 49) rfl rfl Tryz.func32 J0 rfl #[.string a1] rfl J1 ?_;(with_reducible refine (table_Type.calls a1 t882 t883 _ A24.out).mono ?_);rintro e w28 ⟨rfl,hb⟩;refine ⟨_,rfl,?_⟩;have n0_:=Y0 (Kd.R_below J16 hb);have n1_:=Y0 (Kd.R_below J15 hb);have n2_:=Y0 (blk_below (g:=gb870) (o:=.cells #[.slice A0_0 l0_0.length c0_0,.slice A0_1 l0_1.length c0_1] 26 (0,0)) J5 hb);have n3_:=Y0 (blk_below (g:=gb881) (o:=.cells #[.slice Ao14 t873.length co14,.slice Ao17 t876.length co17] 46 (0,0)) J9 hb);have n4_:=Y0 (below_step J6 hb);clear HO_882000;clear HO_882001;clear BK870;clear BK881;clear HB;have HO_882000:=n0_;have HO_882001:=n1_;have BK870:=n2_;have BK881:=n3_;have HB:=n4_;clear n0_ n1_ n2_ n3_ n4_;(try clear hb);(try clear hb2);(try clear hk);(try clear hi)))
   have n0_:=Y0 (Kd.R_drew HO_882000.out)
   have n1_:=Y0 (Kd.R_drew HO_882001.out)
   have n2_:=Y0 (blk_drew BK870.out)
   have n3_:=Y0 (blk_drew BK881.out)
   have n4_:=Y0 (below_drew1 HB.out)
   clear HO_882000
   clear HO_882001
   clear BK870
   clear BK881
   clear HB
   have HO_882000:=n0_
   have HO_882001:=n1_
   have BK870:=n2_
   have BK881:=n3_
   have HB:=n4_
   clear n0_ n1_ n2_ n3_ n4_
   refine start_ (n:=12) (S:=fun w'=>w'.cell? ⟨gb870,0,none⟩=some (.slice A0_0 l0_0.length c0_0)∧w'.cell? ⟨gb870,1,none⟩=some (.slice A0_1 l0_1.length c0_1)) (ds:=[]) #[false,false,false,false,false,false,false,false,false,false,false,false] J0 rfl rfl ⟨(blk_cell BK870.out 0).trans rfl,(blk_cell BK870.out 1).trans rfl⟩ (fun hHeld=>?_);refine with_tabW trufflelaw08_TableMore.tab7 trufflelaw08_TableMore.bits7 (fun HT_ HW_=>?_)
   generalize w28.drew=w29 at HO_882000 HO_882001 BK870 BK881 HB hHeld ⊢
   refine pure_ (i:=0) (N:=some 52) (v:=?_) (a':=?_) (sqB 12 1) rfl rfl (any_of HT_.out J0) (fun _ _ _ h=>h) (Or.inl ⟨J19,?_⟩) ?_ ?_;rotate_left;intro w';go_simp;with_reducible rfl;rotate_left;simp only [Act.put,Y14,Y15,Y16,i64_w];rfl
   refine pure_ (i:=3) (N:=some 55) (v:=?_) (a':=?_) (sqB 12 9) rfl rfl (any_of HT_.out J0) (fun _ _ _ h=>h) (Or.inl ⟨J19,?_⟩) ?_ ?_;rotate_left;intro w';go_simp;with_reducible rfl;rotate_left;simp only [Act.put,Y14,Y15,Y16,i64_w];rfl
   refine pure_ (i:=4) (N:=some 56) (v:=?_) (a':=?_) (sqB 12 25) rfl rfl (any_of HT_.out J0) (fun _ _ _ h=>h) (Or.inl ⟨J19,?_⟩) ?_ ?_;rotate_left;intro w';go_simp;with_reducible rfl;rotate_left;simp only [Act.put,Y14,Y15,Y16,i64_w];rfl
   refine pure_ (i:=7) (N:=some 59) (v:=?_) (a':=?_) (sqB 12 153) rfl rfl (any_of HT_.out J0) (fun _ _ _ h=>h) (Or.inl ⟨J19,?_⟩) ?_ ?_;rotate_left;intro w';go_simp;with_reducible rfl;rotate_left;simp only [Act.put,Y14,Y15,Y16,i64_w];rfl
   refine take_ (i:=1) (N:=some 53) (v:=?_) (a':=?_) (sqB 12 155) rfl rfl (take_ofW HT_.out HW_.out J0) (fun _ _ _ h=>h) (Or.inl ⟨J19,?_⟩) hHeld ?_ ?_;rotate_left;rintro w' ⟨s0,s1⟩;go_simp;with_reducible rfl;rotate_left;simp only [Act.put,Y14,Y15,Y16,i64_w];rfl
   refine take_ (i:=8) (N:=some 60) (v:=?_) (a':=?_) (sqB 12 411) rfl rfl (take_ofW HT_.out HW_.out J0) (fun _ _ _ h=>h) (Or.inl ⟨J19,?_⟩) hHeld ?_ ?_;rotate_left;rintro w' ⟨s0,s1⟩;go_simp;with_reducible rfl;rotate_left;simp only [Act.put,Y14,Y15,Y16,i64_w];rfl
   refine join_ (σ:=Value × Value × Value × Nat) 1 #[true,true,true,true,true,true,true,true,true,true,true,false] (fun s_=>[(54,s_.1),(57,s_.2.1),(58,s_.2.2.1),(12,.pointer (some ⟨s_.2.2.2,0,none⟩)),(61,.agg #[s_.2.2.1,.slice A0_1 l0_1.length c0_1])]) (fun s_ w'=>(w'.cell? ⟨gb870,0,none⟩=some (.slice A0_0 l0_0.length c0_0)∧w'.cell? ⟨gb870,1,none⟩=some (.slice A0_1 l0_1.length c0_1))∧(Kd.R (Kd.fixed k34 w) 34 w' w.heap.size (fun k_=>some k_≠(s_.2.2.1:Value).ownBlock) s_.2.1 y887)∧(Kd.R (Kd.fixed k34 w) 34 w' w.heap.size (fun k_=>some k_≠(s_.2.1:Value).ownBlock) s_.2.2.1 y890)∧(Kd.R k57 57 w' w.heap.size (fun _=>True) (.slice Ao14 t873.length co14) t873)∧(Kd.R k119 119 w' w.heap.size (fun _=>True) (.slice Ao17 t876.length co17) t876)∧(w'.heap[gb870]?=some (.cells #[.slice A0_0 l0_0.length c0_0,.slice A0_1 l0_1.length c0_1] 26 (0,0)))∧(w'.heap[gb881]?=some (.cells #[.slice Ao14 t873.length co14,.slice Ao17 t876.length co17] 46 (0,0)))∧(w'.heap[s_.2.2.2]?=some (.cells #[.slice none 0 0,.slice none 0 0] 26 (0,0)))∧(w.heap.size≤s_.2.2.2)∧(w.heap.size≤s_.2.2.2)∧(gb870≠s_.2.2.2)∧(s_.2.2.2≠gb870)∧(gb881≠s_.2.2.2)∧(s_.2.2.2≠gb881)∧(Below w.heap.size w w')) ?_ ?_
   rotate_left
   ·intro hJ2_5_6_10
    refine join_ (σ:=Value × Value × Value) 2 #[true,true,true,true,true,true,true,true,true,true,false,false] (fun s_=>[(54,s_.1),(57,s_.2.1),(58,s_.2.2),(61,.agg #[s_.2.2,.slice A0_1 l0_1.length c0_1])]) (fun s_ w'=>(w'.cell? ⟨gb870,0,none⟩=some (.slice A0_0 l0_0.length c0_0)∧w'.cell? ⟨gb870,1,none⟩=some (.slice A0_1 l0_1.length c0_1))∧(Kd.R (Kd.fixed k34 w) 34 w' w.heap.size (fun k_=>some k_≠(s_.2.2:Value).ownBlock) s_.2.1 y887)∧(Kd.R (Kd.fixed k34 w) 34 w' w.heap.size (fun k_=>some k_≠(s_.2.1:Value).ownBlock) s_.2.2 y890)∧(Kd.R k57 57 w' w.heap.size (fun _=>True) (.slice Ao14 t873.length co14) t873)∧(Kd.R k119 119 w' w.heap.size (fun _=>True) (.slice Ao17 t876.length co17) t876)∧(w'.heap[gb870]?=some (.cells #[.slice A0_0 l0_0.length c0_0,.slice A0_1 l0_1.length c0_1] 26 (0,0)))∧(w'.heap[gb881]?=some (.cells #[.slice Ao14 t873.length co14,.slice Ao17 t876.length co17] 46 (0,0)))∧(Below w.heap.size w w')) ?_ ?_
    rotate_left
    ·intro hJ2_5_6
     refine join_ (σ:=Value × Value × Nat) 3 #[true,true,true,true,true,true,false,true,true,false,true,false] (fun s_=>[(54,s_.1),(57,s_.2.1),(12,.pointer (some ⟨s_.2.2,0,none⟩))]) (fun s_ w'=>(w'.cell? ⟨gb870,0,none⟩=some (.slice A0_0 l0_0.length c0_0)∧w'.cell? ⟨gb870,1,none⟩=some (.slice A0_1 l0_1.length c0_1))∧(Kd.R (Kd.fixed k34 w) 34 w' w.heap.size (fun k_=>some k_≠(s_.2.1:Value).ownBlock) s_.1 y884)∧(Kd.R (Kd.fixed k34 w) 34 w' w.heap.size (fun k_=>some k_≠(s_.1:Value).ownBlock) s_.2.1 y887)∧(Kd.R k57 57 w' w.heap.size (fun _=>True) (.slice Ao14 t873.length co14) t873)∧(Kd.R k119 119 w' w.heap.size (fun _=>True) (.slice Ao17 t876.length co17) t876)∧(w'.heap[gb870]?=some (.cells #[.slice A0_0 l0_0.length c0_0,.slice A0_1 l0_1.length c0_1] 26 (0,0)))∧(w'.heap[gb881]?=some (.cells #[.slice Ao14 t873.length co14,.slice Ao17 t876.length co17] 46 (0,0)))∧(w'.heap[s_.2.2]?=some (.cells #[.slice none 0 0,.slice none 0 0] 26 (0,0)))∧(w.heap.size≤s_.2.2)∧(w.heap.size≤s_.2.2)∧(gb870≠s_.2.2)∧(s_.2.2≠gb870)∧(gb881≠s_.2.2)∧(s_.2.2≠gb881)∧(Below w.heap.size w w')) ?_ ?_
     rotate_left
     ·intro hJ2_5_10
      refine join_ (σ:=Value × Value) 4 #[true,true,true,true,true,true,false,true,true,false,false,false] (fun s_=>[(54,s_.1),(57,s_.2)]) (fun s_ w'=>(w'.cell? ⟨gb870,0,none⟩=some (.slice A0_0 l0_0.length c0_0)∧w'.cell? ⟨gb870,1,none⟩=some (.slice A0_1 l0_1.length c0_1))∧(Kd.R (Kd.fixed k34 w) 34 w' w.heap.size (fun k_=>some k_≠(s_.2:Value).ownBlock) s_.1 y884)∧(Kd.R (Kd.fixed k34 w) 34 w' w.heap.size (fun k_=>some k_≠(s_.1:Value).ownBlock) s_.2 y887)∧(Kd.R k57 57 w' w.heap.size (fun _=>True) (.slice Ao14 t873.length co14) t873)∧(Kd.R k119 119 w' w.heap.size (fun _=>True) (.slice Ao17 t876.length co17) t876)∧(w'.heap[gb870]?=some (.cells #[.slice A0_0 l0_0.length c0_0,.slice A0_1 l0_1.length c0_1] 26 (0,0)))∧(w'.heap[gb881]?=some (.cells #[.slice Ao14 t873.length co14,.slice Ao17 t876.length co17] 46 (0,0)))∧(Below w.heap.size w w')) ?_ ?_
      rotate_left
      ·intro hJ2_5
       refine join_ (σ:=Value × Nat) 4 #[true,true,true,true,true,false,false,true,true,false,true,false] (fun s_=>[(54,s_.1),(12,.pointer (some ⟨s_.2,0,none⟩))]) (fun s_ w'=>(w'.cell? ⟨gb870,0,none⟩=some (.slice A0_0 l0_0.length c0_0)∧w'.cell? ⟨gb870,1,none⟩=some (.slice A0_1 l0_1.length c0_1))∧(Kd.R (Kd.fixed k34 w) 34 w' w.heap.size (fun _=>True) s_.1 y884)∧(Kd.R k57 57 w' w.heap.size (fun _=>True) (.slice Ao14 t873.length co14) t873)∧(Kd.R k119 119 w' w.heap.size (fun _=>True) (.slice Ao17 t876.length co17) t876)∧(w'.heap[gb870]?=some (.cells #[.slice A0_0 l0_0.length c0_0,.slice A0_1 l0_1.length c0_1] 26 (0,0)))∧(w'.heap[gb881]?=some (.cells #[.slice Ao14 t873.length co14,.slice Ao17 t876.length co17] 46 (0,0)))∧(w'.heap[s_.2]?=some (.cells #[.slice none 0 0,.slice none 0 0] 26 (0,0)))∧(w.heap.size≤s_.2)∧(w.heap.size≤s_.2)∧(gb870≠s_.2)∧(s_.2≠gb870)∧(gb881≠s_.2)∧(s_.2≠gb881)∧(Below w.heap.size w w')) ?_ ?_
       rotate_left
       ·intro hJ2_10
        refine join_ (σ:=Value × Nat) 4 #[true,true,false,true,true,true,false,true,true,false,true,false] (fun s_=>[(57,s_.1),(12,.pointer (some ⟨s_.2,0,none⟩))]) (fun s_ w'=>(w'.cell? ⟨gb870,0,none⟩=some (.slice A0_0 l0_0.length c0_0)∧w'.cell? ⟨gb870,1,none⟩=some (.slice A0_1 l0_1.length c0_1))∧(Kd.R (Kd.fixed k34 w) 34 w' w.heap.size (fun _=>True) s_.1 y887)∧(Kd.R k57 57 w' w.heap.size (fun _=>True) (.slice Ao14 t873.length co14) t873)∧(Kd.R k119 119 w' w.heap.size (fun _=>True) (.slice Ao17 t876.length co17) t876)∧(w'.heap[gb870]?=some (.cells #[.slice A0_0 l0_0.length c0_0,.slice A0_1 l0_1.length c0_1] 26 (0,0)))∧(w'.heap[gb881]?=some (.cells #[.slice Ao14 t873.length co14,.slice Ao17 t876.length co17] 46 (0,0)))∧(w'.heap[s_.2]?=some (.cells #[.slice none 0 0,.slice none 0 0] 26 (0,0)))∧(w.heap.size≤s_.2)∧(w.heap.size≤s_.2)∧(gb870≠s_.2)∧(s_.2≠gb870)∧(gb881≠s_.2)∧(s_.2≠gb881)∧(Below w.heap.size w w')) ?_ ?_
        rotate_left
        ·intro hJ5_10
         refine join_ (σ:=Value) 5 #[true,true,true,true,true,false,false,true,true,false,false,false] (fun s_=>[(54,s_)]) (fun s_ w'=>(w'.cell? ⟨gb870,0,none⟩=some (.slice A0_0 l0_0.length c0_0)∧w'.cell? ⟨gb870,1,none⟩=some (.slice A0_1 l0_1.length c0_1))∧(Kd.R (Kd.fixed k34 w) 34 w' w.heap.size (fun _=>True) s_ y884)∧(Kd.R k57 57 w' w.heap.size (fun _=>True) (.slice Ao14 t873.length co14) t873)∧(Kd.R k119 119 w' w.heap.size (fun _=>True) (.slice Ao17 t876.length co17) t876)∧(w'.heap[gb870]?=some (.cells #[.slice A0_0 l0_0.length c0_0,.slice A0_1 l0_1.length c0_1] 26 (0,0)))∧(w'.heap[gb881]?=some (.cells #[.slice Ao14 t873.length co14,.slice Ao17 t876.length co17] 46 (0,0)))∧(Below w.heap.size w w')) ?_ ?_
         rotate_left
         ·intro hJ2
          refine join_ (σ:=Value) 5 #[true,true,false,true,true,true,false,true,true,false,false,false] (fun s_=>[(57,s_)]) (fun s_ w'=>(w'.cell? ⟨gb870,0,none⟩=some (.slice A0_0 l0_0.length c0_0)∧w'.cell? ⟨gb870,1,none⟩=some (.slice A0_1 l0_1.length c0_1))∧(Kd.R (Kd.fixed k34 w) 34 w' w.heap.size (fun _=>True) s_ y887)∧(Kd.R k57 57 w' w.heap.size (fun _=>True) (.slice Ao14 t873.length co14) t873)∧(Kd.R k119 119 w' w.heap.size (fun _=>True) (.slice Ao17 t876.length co17) t876)∧(w'.heap[gb870]?=some (.cells #[.slice A0_0 l0_0.length c0_0,.slice A0_1 l0_1.length c0_1] 26 (0,0)))∧(w'.heap[gb881]?=some (.cells #[.slice Ao14 t873.length co14,.slice Ao17 t876.length co17] 46 (0,0)))∧(Below w.heap.size w w')) ?_ ?_
          rotate_left
          ·intro hJ5
           refine join_ (σ:=Nat) 5 #[true,true,false,true,true,false,false,true,true,false,true,false] (fun s_=>[(12,.pointer (some ⟨s_,0,none⟩))]) (fun s_ w'=>(w'.cell? ⟨gb870,0,none⟩=some (.slice A0_0 l0_0.length c0_0)∧w'.cell? ⟨gb870,1,none⟩=some (.slice A0_1 l0_1.length c0_1))∧(Kd.R k57 57 w' w.heap.size (fun _=>True) (.slice Ao14 t873.length co14) t873)∧(Kd.R k119 119 w' w.heap.size (fun _=>True) (.slice Ao17 t876.length co17) t876)∧(w'.heap[gb870]?=some (.cells #[.slice A0_0 l0_0.length c0_0,.slice A0_1 l0_1.length c0_1] 26 (0,0)))∧(w'.heap[gb881]?=some (.cells #[.slice Ao14 t873.length co14,.slice Ao17 t876.length co17] 46 (0,0)))∧(w'.heap[s_]?=some (.cells #[.slice none 0 0,.slice none 0 0] 26 (0,0)))∧(w.heap.size≤s_)∧(w.heap.size≤s_)∧(gb870≠s_)∧(s_≠gb870)∧(gb881≠s_)∧(s_≠gb881)∧(Below w.heap.size w w')) ?_ ?_
           rotate_left
           ·intro hJ10
            refine three_ (i:=2) (j:=5) (k:=10) (Ni:=some 54) (Nj:=some 57) (Nk:=some 12) #[true,true,true,true,true,false,false,true,true,false,false,false] #[true,true,false,true,true,true,false,true,true,false,false,false] #[true,true,false,true,true,false,false,true,true,false,true,false] rfl rfl rfl rfl rfl rfl (three_of HT_.out J0) J11 J11 J11 (fun K hK=>?_) (fun K hK=>?_) (fun K hK=>?_)
            ·skip
             refine Kd.R_append_rows_step (Kd.fixed k34 w) (w0:=w) w.heap.size J19 (.const (.slice none 0 0)) (.tmp 53) 23 34 (.agg #[(.string ⟨#[]⟩),(.slice none 0 0),(.slice none 0 0),(.slice none 0 0),(.int .i64 0)]) 96 rfl Tryz.underlying23 info34 rfl (show 0 < 5 from by decide) J7 (.slice none 0 0) ([]:List (S34)) l0_0 _ _ _ (fun _=>True) (fun _=>False) rfl rfl ?aO ?aR (fun _ _ h=>h) (fun _ h=>h.elim) ?aF ?aB ?aS ?aL ?_
             (case aR=>exact msY_row HR0_0.out J6)
             (case aB=>exact J6)
             (case aF=>exact (fun _ _=>trivial))
             (case aO=>exact ((Kd.R_nil _ _ _ _ _)))
             (case aS=>exact (below_size J6))
             (case aL=>have:=LMc25.out;omega)
             intro v885 w30 ho hb hg hat
             rw [← Ny884.out] at ho
             have n0_:=Y0 (Kd.R_grown J16 hg (fun _ _=>by simp [Value.ownBlock]))
             have n1_:=Y0 (Kd.R_grown J15 hg (fun _ _=>by simp [Value.ownBlock]))
             have n2_:=Y0 (blk_grown (g:=gb870) (o:=.cells #[.slice A0_0 l0_0.length c0_0,.slice A0_1 l0_1.length c0_1] 26 (0,0)) J5 hg J113)
             have n3_:=Y0 (blk_grown (g:=gb881) (o:=.cells #[.slice Ao14 t873.length co14,.slice Ao17 t876.length co17] 46 (0,0)) J9 hg J113)
             have n4_:=Y0 (hb)
             have n5_:=Y0 (ho)
             clear HO_882000
             clear HO_882001
             clear BK870
             clear BK881
             clear HB
             have HO_882000:=n0_
             have HO_882001:=n1_
             have BK870:=n2_
             have BK881:=n3_
             have HB:=n4_
             have HO886:=n5_
             clear n0_ n1_ n2_ n3_ n4_ n5_
             clear ho hb hg hat
             refine hK.out _ _ ⟨(blk_cell BK870.out 0).trans rfl,(blk_cell BK870.out 1).trans rfl⟩ (fun hHeld=>?_)
             clear hK K
             refine norm_ (a':=?_) ?_ ?_;rotate_left;show Act.put _ (some 54) _=_;simp only [Act.put,Y14,Y15,Y16,i64_w];rfl
             exact norm_ J18 (hJ2 (v885) _ ⟨hHeld,J37,J16,J15,J5,J9,J6⟩)
            ·skip
             refine Kd.R_lit_step (Kd.fixed k34 w) _ 34 ?hg (N:=57) ?hd (xs:=([(⟨a1,([]:List (S36)),([]:List ByteArray),([]:List Int),0⟩:S34)]:List (S34))) (inner:=[.string a1,.slice none 0 0,.slice none 0 0,.slice none 0 0,.int .i64 0]) (ok:=fun _=>True) (okp:=fun _=>True) ?hr ?hp (fun _ hk=>hk) trivial (Below.refl _ _) (Nat.le_refl _) J53 ?_;(case hd=>rfl);(case hg=>rfl);(case hr=>first|(go_simp;done)|(go_simp;rfl));(case hp=>exact (Reps.c5 (show Kd.M (Kd.fixed k34 w) _ _ _ (⟨a1,([]:List (S36)),([]:List ByteArray),([]:List Int),0⟩:S34) [.string a1,.slice none 0 0,.slice none 0 0,.slice none 0 0,.int .i64 0] from msY_new w _) (Reps.none _ _)))
             intro v888 w30 ho31 hb hg_ hnew_
             clear hg_ hnew_
             (first|rw [← Ny887.out] at ho31|(simp only [Int.reduceToNat] at ho31;rw [← Ny887.out] at ho31))
             have n0_:=Y0 (Kd.R_below J16 hb)
             have n1_:=Y0 (Kd.R_below J15 hb)
             have n2_:=Y0 (Kd.R_lower ho31 (below_size J6))
             have n3_:=Y0 (blk_below (g:=gb870) (o:=.cells #[.slice A0_0 l0_0.length c0_0,.slice A0_1 l0_1.length c0_1] 26 (0,0)) J5 hb)
             have n4_:=Y0 (blk_below (g:=gb881) (o:=.cells #[.slice Ao14 t873.length co14,.slice Ao17 t876.length co17] 46 (0,0)) J9 hb)
             have n5_:=Y0 (below_step J6 hb)
             clear HO_882000
             clear HO_882001
             clear BK870
             clear BK881
             clear HB
             have HO_882000:=n0_
             have HO_882001:=n1_
             have HO889:=n2_
             have BK870:=n3_
             have BK881:=n4_
             have HB:=n5_
             clear n0_ n1_ n2_ n3_ n4_ n5_
             clear hb ho31
             refine hK.out _ _ ⟨(blk_cell BK870.out 0).trans rfl,(blk_cell BK870.out 1).trans rfl⟩ (fun hHeld=>?_)
             clear hK K
             refine norm_ (a':=?_) ?_ ?_;rotate_left;show Act.put _ (some 57) _=_;simp only [Act.put,Y14,Y15,Y16,i64_w];rfl
             exact norm_ J18 (hJ5 (v888) _ ⟨hHeld,J41,J16,J15,J5,J9,J6⟩)
            ·skip
             refine box_step ?hg (N:=12) ?hd (cs:=#[.slice none 0 0,.slice none 0 0]) (t:=26) ?hr ?_;(case hd=>rfl);(case hg=>rfl);(case hr=>first|(go_simp;done)|(go_simp;rfl))
             intro gb893 hg w30 hbox hb
             have n0_:=Y0 (Kd.R_below J16 hb)
             have n1_:=Y0 (Kd.R_below J15 hb)
             have n2_:=Y0 (blk_below (g:=gb870) (o:=.cells #[.slice A0_0 l0_0.length c0_0,.slice A0_1 l0_1.length c0_1] 26 (0,0)) J5 hb)
             have n3_:=Y0 (blk_below (g:=gb881) (o:=.cells #[.slice Ao14 t873.length co14,.slice Ao17 t876.length co17] 46 (0,0)) J9 hb)
             have n4_:=Y0 (below_step J6 hb)
             have n5_:=Y0 (hbox)
             have n6_:=Y0 ((by rw [hg];exact (below_size J6):w.heap.size≤gb893))
             have n7_:=Y0 ((by rw [hg];exact (below_size J6):w.heap.size≤gb893))
             have n8_:=Y0 ((by rw [hg];exact Nat.ne_of_lt (blk_lt (g:=gb870) (o:=.cells #[.slice A0_0 l0_0.length c0_0,.slice A0_1 l0_1.length c0_1] 26 (0,0)) J5):gb870≠gb893))
             have n9_:=Y0 ((by rw [hg];exact Nat.ne_of_gt (blk_lt (g:=gb870) (o:=.cells #[.slice A0_0 l0_0.length c0_0,.slice A0_1 l0_1.length c0_1] 26 (0,0)) J5):gb893≠gb870))
             have n10_:=Y0 ((by rw [hg];exact Nat.ne_of_lt (blk_lt (g:=gb881) (o:=.cells #[.slice Ao14 t873.length co14,.slice Ao17 t876.length co17] 46 (0,0)) J9):gb881≠gb893))
             have n11_:=Y0 ((by rw [hg];exact Nat.ne_of_gt (blk_lt (g:=gb881) (o:=.cells #[.slice Ao14 t873.length co14,.slice Ao17 t876.length co17] 46 (0,0)) J9):gb893≠gb881))
             clear HO_882000
             clear HO_882001
             clear BK870
             clear BK881
             clear HB
             have HO_882000:=n0_
             have HO_882001:=n1_
             have BK870:=n2_
             have BK881:=n3_
             have HB:=n4_
             have BK893:=n5_
             have GW893:=n6_
             have GE893:=n7_
             have NB870_893:=n8_
             have NB893_870:=n9_
             have NB881_893:=n10_
             have NB893_881:=n11_
             clear n0_ n1_ n2_ n3_ n4_ n5_ n6_ n7_ n8_ n9_ n10_ n11_
             clear hb hbox hg
             refine hK.out _ _ ⟨(blk_cell BK870.out 0).trans rfl,(blk_cell BK870.out 1).trans rfl⟩ (fun hHeld=>?_)
             clear hK K
             refine norm_ (a':=?_) ?_ ?_;rotate_left;show Act.put _ (some 12) _=_;simp only [Act.put,Y14,Y15,Y16,i64_w];rfl
             exact norm_ J18 (hJ10 (gb893) _ ⟨hHeld,J16,J15,J5,J9,J24,GW893.out,GE893.out,NB870_893.out,NB893_870.out,NB881_893.out,NB893_881.out,J8⟩)
           ·skip
            rintro gb893 w31 ⟨hS_,h0_,h1_,h2_,h3_,h4_,h5_,h6_,h7_,h8_,h9_,h10_,h11_⟩
            have n0_:Aside0 (Kd.R k57 57 w31 w.heap.size (fun _=>True) (.slice Ao14 t873.length co14) t873):=⟨h0_⟩
            have n1_:Aside0 (Kd.R k119 119 w31 w.heap.size (fun _=>True) (.slice Ao17 t876.length co17) t876):=⟨h1_⟩
            have n2_:Aside0 (w31.heap[gb870]?=some (.cells #[.slice A0_0 l0_0.length c0_0,.slice A0_1 l0_1.length c0_1] 26 (0,0))):=⟨h2_⟩
            have n3_:Aside0 (w31.heap[gb881]?=some (.cells #[.slice Ao14 t873.length co14,.slice Ao17 t876.length co17] 46 (0,0))):=⟨h3_⟩
            have n4_:Aside0 (w31.heap[gb893]?=some (.cells #[.slice none 0 0,.slice none 0 0] 26 (0,0))):=⟨h4_⟩
            have n5_:Aside0 (w.heap.size≤gb893):=⟨h5_⟩
            have n6_:Aside0 (w.heap.size≤gb893):=⟨h6_⟩
            have n7_:Aside0 (gb870≠gb893):=⟨h7_⟩
            have n8_:Aside0 (gb893≠gb870):=⟨h8_⟩
            have n9_:Aside0 (gb881≠gb893):=⟨h9_⟩
            have n10_:Aside0 (gb893≠gb881):=⟨h10_⟩
            have n11_:Aside0 (Below w.heap.size w w31):=⟨h11_⟩
            clear HO_882000
            clear HO_882001
            clear BK870
            clear BK881
            clear HB
            clear h0_ h1_ h2_ h3_ h4_ h5_ h6_ h7_ h8_ h9_ h10_ h11_
            have HO_882000:=n0_
            have HO_882001:=n1_
            have BK870:=n2_
            have BK881:=n3_
            have BK893:=n4_
            have GW893:=n5_
            have GE893:=n6_
            have NB870_893:=n7_
            have NB893_870:=n8_
            have NB881_893:=n9_
            have NB893_881:=n10_
            have HB:=n11_
            clear n0_ n1_ n2_ n3_ n4_ n5_ n6_ n7_ n8_ n9_ n10_ n11_
            have hHeld:w31.cell? ⟨gb870,0,none⟩=some (.slice A0_0 l0_0.length c0_0)∧w31.cell? ⟨gb870,1,none⟩=some (.slice A0_1 l0_1.length c0_1):=hS_
            refine norm_ (a':=?_) ?_ ?_
            rotate_left
            ·simp only [putAll,Act.put,List.setIfInBounds_toArray,List.set_cons_zero,List.set_cons_succ]
             rfl
            refine two_ (i:=2) (j:=5) (Ni:=some 54) (Nj:=some 57) #[true,true,true,true,true,false,false,true,true,false,true,false] #[true,true,false,true,true,true,false,true,true,false,true,false] rfl rfl rfl rfl (two_of HT_.out J0) J11 J11 (fun K hK=>?_) (fun K hK=>?_)
            ·skip
             refine Kd.R_append_rows_step (Kd.fixed k34 w) (w0:=w) w.heap.size J19 (.const (.slice none 0 0)) (.tmp 53) 23 34 (.agg #[(.string ⟨#[]⟩),(.slice none 0 0),(.slice none 0 0),(.slice none 0 0),(.int .i64 0)]) 96 rfl Tryz.underlying23 info34 rfl (show 0 < 5 from by decide) J7 (.slice none 0 0) ([]:List (S34)) l0_0 _ _ _ (fun _=>True) (fun _=>False) rfl rfl ?aO ?aR (fun _ _ h=>h) (fun _ h=>h.elim) ?aF ?aB ?aS ?aL ?_
             (case aR=>exact msY_row HR0_0.out J8)
             (case aB=>exact J8)
             (case aF=>exact (fun _ _=>trivial))
             (case aO=>exact ((Kd.R_nil _ _ _ _ _)))
             (case aS=>exact (below_size J8))
             (case aL=>have:=LMc25.out;omega)
             intro v885 w32 ho hb hg hat
             rw [← Ny884.out] at ho
             have n0_:=Y0 (Kd.R_grown J16 hg (fun _ _=>by simp [Value.ownBlock]))
             have n1_:=Y0 (Kd.R_grown J15 hg (fun _ _=>by simp [Value.ownBlock]))
             have n2_:=Y0 (blk_grown (g:=gb870) (o:=.cells #[.slice A0_0 l0_0.length c0_0,.slice A0_1 l0_1.length c0_1] 26 (0,0)) J5 hg J113)
             have n3_:=Y0 (blk_grown (g:=gb881) (o:=.cells #[.slice Ao14 t873.length co14,.slice Ao17 t876.length co17] 46 (0,0)) J9 hg J113)
             have n4_:=Y0 (blk_grown (g:=gb893) (o:=.cells #[.slice none 0 0,.slice none 0 0] 26 (0,0)) J24 hg J113)
             have n5_:=Y0 (hb)
             have n6_:=Y0 (ho)
             clear HO_882000
             clear HO_882001
             clear BK870
             clear BK881
             clear BK893
             clear HB
             have HO_882000:=n0_
             have HO_882001:=n1_
             have BK870:=n2_
             have BK881:=n3_
             have BK893:=n4_
             have HB:=n5_
             have HO886:=n6_
             clear n0_ n1_ n2_ n3_ n4_ n5_ n6_
             clear ho hb hg hat
             refine hK.out _ _ ⟨(blk_cell BK870.out 0).trans rfl,(blk_cell BK870.out 1).trans rfl⟩ (fun hHeld=>?_)
             clear hK K
             refine norm_ (a':=?_) ?_ ?_;rotate_left;show Act.put _ (some 54) _=_;simp only [Act.put,Y14,Y15,Y16,i64_w];rfl
             exact norm_ J18 (hJ2_10 (v885,gb893) _ ⟨hHeld,J37,J16,J15,J5,J9,J24,GW893.out,GE893.out,NB870_893.out,NB893_870.out,NB881_893.out,NB893_881.out,J8⟩)
            ·skip
             refine Kd.R_lit_step (Kd.fixed k34 w) _ 34 ?hg (N:=57) ?hd (xs:=([(⟨a1,([]:List (S36)),([]:List ByteArray),([]:List Int),0⟩:S34)]:List (S34))) (inner:=[.string a1,.slice none 0 0,.slice none 0 0,.slice none 0 0,.int .i64 0]) (ok:=fun _=>True) (okp:=fun _=>True) ?hr ?hp (fun _ hk=>hk) trivial (Below.refl _ _) (Nat.le_refl _) J53 ?_;(case hd=>rfl);(case hg=>rfl);(case hr=>first|(go_simp;done)|(go_simp;rfl));(case hp=>exact (Reps.c5 (show Kd.M (Kd.fixed k34 w) _ _ _ (⟨a1,([]:List (S36)),([]:List ByteArray),([]:List Int),0⟩:S34) [.string a1,.slice none 0 0,.slice none 0 0,.slice none 0 0,.int .i64 0] from msY_new w _) (Reps.none _ _)))
             intro v888 w32 ho33 hb hg_ hnew_
             clear hg_ hnew_
             (first|rw [← Ny887.out] at ho33|(simp only [Int.reduceToNat] at ho33;rw [← Ny887.out] at ho33))
             have n0_:=Y0 (Kd.R_below J16 hb)
             have n1_:=Y0 (Kd.R_below J15 hb)
             have n2_:=Y0 (Kd.R_lower ho33 (below_size J8))
             have n3_:=Y0 (blk_below (g:=gb870) (o:=.cells #[.slice A0_0 l0_0.length c0_0,.slice A0_1 l0_1.length c0_1] 26 (0,0)) J5 hb)
             have n4_:=Y0 (blk_below (g:=gb881) (o:=.cells #[.slice Ao14 t873.length co14,.slice Ao17 t876.length co17] 46 (0,0)) J9 hb)
             have n5_:=Y0 (blk_below (g:=gb893) (o:=.cells #[.slice none 0 0,.slice none 0 0] 26 (0,0)) J24 hb)
             have n6_:=Y0 (below_step J8 hb)
             clear HO_882000
             clear HO_882001
             clear BK870
             clear BK881
             clear BK893
             clear HB
             have HO_882000:=n0_
             have HO_882001:=n1_
             have HO889:=n2_
             have BK870:=n3_
             have BK881:=n4_
             have BK893:=n5_
             have HB:=n6_
             clear n0_ n1_ n2_ n3_ n4_ n5_ n6_
             clear hb ho33
             refine hK.out _ _ ⟨(blk_cell BK870.out 0).trans rfl,(blk_cell BK870.out 1).trans rfl⟩ (fun hHeld=>?_)
             clear hK K
             refine norm_ (a':=?_) ?_ ?_;rotate_left;show Act.put _ (some 57) _=_;simp only [Act.put,Y14,Y15,Y16,i64_w];rfl
             exact norm_ J18 (hJ5_10 (v888,gb893) _ ⟨hHeld,J41,J16,J15,J5,J9,J24,GW893.out,GE893.out,NB870_893.out,NB893_870.out,NB881_893.out,NB893_881.out,J8⟩)
          ·skip
           rintro v888 w32 ⟨hS_,h0_,h1_,h2_,h3_,h4_,h5_⟩
           have n0_:Aside0 (Kd.R (Kd.fixed k34 w) 34 w32 w.heap.size (fun _=>True) v888 y887):=⟨h0_⟩
           have n1_:Aside0 (Kd.R k57 57 w32 w.heap.size (fun _=>True) (.slice Ao14 t873.length co14) t873):=⟨h1_⟩
           have n2_:Aside0 (Kd.R k119 119 w32 w.heap.size (fun _=>True) (.slice Ao17 t876.length co17) t876):=⟨h2_⟩
           have n3_:Aside0 (w32.heap[gb870]?=some (.cells #[.slice A0_0 l0_0.length c0_0,.slice A0_1 l0_1.length c0_1] 26 (0,0))):=⟨h3_⟩
           have n4_:Aside0 (w32.heap[gb881]?=some (.cells #[.slice Ao14 t873.length co14,.slice Ao17 t876.length co17] 46 (0,0))):=⟨h4_⟩
           have n5_:Aside0 (Below w.heap.size w w32):=⟨h5_⟩
           clear HO_882000
           clear HO_882001
           clear BK870
           clear BK881
           clear HB
           clear h0_ h1_ h2_ h3_ h4_ h5_
           have HO889:=n0_
           have HO_882000:=n1_
           have HO_882001:=n2_
           have BK870:=n3_
           have BK881:=n4_
           have HB:=n5_
           clear n0_ n1_ n2_ n3_ n4_ n5_
           have hHeld:w32.cell? ⟨gb870,0,none⟩=some (.slice A0_0 l0_0.length c0_0)∧w32.cell? ⟨gb870,1,none⟩=some (.slice A0_1 l0_1.length c0_1):=hS_
           refine norm_ (a':=?_) ?_ ?_
           rotate_left
           ·simp only [putAll,Act.put,List.setIfInBounds_toArray,List.set_cons_zero,List.set_cons_succ]
            rfl
           refine two_ (i:=2) (j:=10) (Ni:=some 54) (Nj:=some 12) #[true,true,true,true,true,true,false,true,true,false,false,false] #[true,true,false,true,true,true,false,true,true,false,true,false] rfl rfl rfl rfl (two_of HT_.out J0) J11 J11 (fun K hK=>?_) (fun K hK=>?_)
           ·skip
            refine Kd.R_append_rows_step (Kd.fixed k34 w) (w0:=w) w.heap.size J19 (.const (.slice none 0 0)) (.tmp 53) 23 34 (.agg #[(.string ⟨#[]⟩),(.slice none 0 0),(.slice none 0 0),(.slice none 0 0),(.int .i64 0)]) 96 rfl Tryz.underlying23 info34 rfl (show 0 < 5 from by decide) J7 (.slice none 0 0) ([]:List (S34)) l0_0 _ _ _ (fun k_=>some k_≠(v888:Value).ownBlock) (fun _=>False) rfl rfl ?aO ?aR (fun _ _ h=>h) (fun _ h=>h.elim) ?aF ?aB ?aS ?aL ?_
            (case aR=>exact msY_row HR0_0.out J6)
            (case aB=>exact J6)
            (case aF=>exact (fun k_ hk=>Kd.fresh' (Kd.R_lt J41) k_ hk))
            (case aO=>exact ((Kd.R_nil _ _ _ _ _)))
            (case aS=>exact (below_size J6))
            (case aL=>have:=LMc25.out;omega)
            intro v885 w33 ho hb hg hat
            rw [← Ny884.out] at ho
            have n0_:=Y0 (Kd.R_grown J16 hg (fun _ _=>by simp [Value.ownBlock]))
            have n1_:=Y0 (Kd.R_grown J15 hg (fun _ _=>by simp [Value.ownBlock]))
            have n2_:=Y0 (blk_grown (g:=gb870) (o:=.cells #[.slice A0_0 l0_0.length c0_0,.slice A0_1 l0_1.length c0_1] 26 (0,0)) J5 hg J113)
            have n3_:=Y0 (blk_grown (g:=gb881) (o:=.cells #[.slice Ao14 t873.length co14,.slice Ao17 t876.length co17] 46 (0,0)) J9 hg J113)
            have n4_:=Y0 (Kd.R_after (Kd.R_apart_nil J41) hg hat)
            have n5_:=Y0 (hb)
            have n6_:=Y0 (ho)
            clear HO_882000
            clear HO_882001
            clear BK870
            clear BK881
            clear HO889
            clear HB
            have HO_882000:=n0_
            have HO_882001:=n1_
            have BK870:=n2_
            have BK881:=n3_
            have HO889:=n4_
            have HB:=n5_
            have HO886:=n6_
            clear n0_ n1_ n2_ n3_ n4_ n5_ n6_
            clear ho hb hg hat
            refine hK.out _ _ ⟨(blk_cell BK870.out 0).trans rfl,(blk_cell BK870.out 1).trans rfl⟩ (fun hHeld=>?_)
            clear hK K
            refine norm_ (a':=?_) ?_ ?_;rotate_left;show Act.put _ (some 54) _=_;simp only [Act.put,Y14,Y15,Y16,i64_w];rfl
            exact norm_ J18 (hJ2_5 (v885,v888) _ ⟨hHeld,J37,J66,J16,J15,J5,J9,J6⟩)
           ·skip
            refine box_step ?hg (N:=12) ?hd (cs:=#[.slice none 0 0,.slice none 0 0]) (t:=26) ?hr ?_;(case hd=>rfl);(case hg=>rfl);(case hr=>first|(go_simp;done)|(go_simp;rfl))
            intro gb893 hg w33 hbox hb
            have n0_:=Y0 (Kd.R_below J16 hb)
            have n1_:=Y0 (Kd.R_below J15 hb)
            have n2_:=Y0 (Kd.R_below J41 hb)
            have n3_:=Y0 (blk_below (g:=gb870) (o:=.cells #[.slice A0_0 l0_0.length c0_0,.slice A0_1 l0_1.length c0_1] 26 (0,0)) J5 hb)
            have n4_:=Y0 (blk_below (g:=gb881) (o:=.cells #[.slice Ao14 t873.length co14,.slice Ao17 t876.length co17] 46 (0,0)) J9 hb)
            have n5_:=Y0 (below_step J6 hb)
            have n6_:=Y0 (hbox)
            have n7_:=Y0 ((by rw [hg];exact (below_size J6):w.heap.size≤gb893))
            have n8_:=Y0 ((by rw [hg];exact (below_size J6):w.heap.size≤gb893))
            have n9_:=Y0 ((by rw [hg];exact Nat.ne_of_lt (blk_lt (g:=gb870) (o:=.cells #[.slice A0_0 l0_0.length c0_0,.slice A0_1 l0_1.length c0_1] 26 (0,0)) J5):gb870≠gb893))
            have n10_:=Y0 ((by rw [hg];exact Nat.ne_of_gt (blk_lt (g:=gb870) (o:=.cells #[.slice A0_0 l0_0.length c0_0,.slice A0_1 l0_1.length c0_1] 26 (0,0)) J5):gb893≠gb870))
            have n11_:=Y0 ((by rw [hg];exact Nat.ne_of_lt (blk_lt (g:=gb881) (o:=.cells #[.slice Ao14 t873.length co14,.slice Ao17 t876.length co17] 46 (0,0)) J9):gb881≠gb893))
            have n12_:=Y0 ((by rw [hg];exact Nat.ne_of_gt (blk_lt (g:=gb881) (o:=.cells #[.slice Ao14 t873.length co14,.slice Ao17 t876.length co17] 46 (0,0)) J9):gb893≠gb881))
            clear HO_882000
            clear HO_882001
            clear HO889
            clear BK870
            clear BK881
            clear HB
            have HO_882000:=n0_
            have HO_882001:=n1_
            have HO889:=n2_
            have BK870:=n3_
            have BK881:=n4_
            have HB:=n5_
            have BK893:=n6_
            have GW893:=n7_
            have GE893:=n8_
            have NB870_893:=n9_
            have NB893_870:=n10_
            have NB881_893:=n11_
            have NB893_881:=n12_
            clear n0_ n1_ n2_ n3_ n4_ n5_ n6_ n7_ n8_ n9_ n10_ n11_ n12_
            clear hb hbox hg
            refine hK.out _ _ ⟨(blk_cell BK870.out 0).trans rfl,(blk_cell BK870.out 1).trans rfl⟩ (fun hHeld=>?_)
            clear hK K
            refine norm_ (a':=?_) ?_ ?_;rotate_left;show Act.put _ (some 12) _=_;simp only [Act.put,Y14,Y15,Y16,i64_w];rfl
            exact norm_ J18 (hJ5_10 (v888,gb893) _ ⟨hHeld,J41,J16,J15,J5,J9,J24,GW893.out,GE893.out,NB870_893.out,NB893_870.out,NB881_893.out,NB893_881.out,J8⟩)
         ·skip
          rintro v885 w31 ⟨hS_,h0_,h1_,h2_,h3_,h4_,h5_⟩
          have n0_:Aside0 (Kd.R (Kd.fixed k34 w) 34 w31 w.heap.size (fun _=>True) v885 y884):=⟨h0_⟩
          have n1_:Aside0 (Kd.R k57 57 w31 w.heap.size (fun _=>True) (.slice Ao14 t873.length co14) t873):=⟨h1_⟩
          have n2_:Aside0 (Kd.R k119 119 w31 w.heap.size (fun _=>True) (.slice Ao17 t876.length co17) t876):=⟨h2_⟩
          have n3_:Aside0 (w31.heap[gb870]?=some (.cells #[.slice A0_0 l0_0.length c0_0,.slice A0_1 l0_1.length c0_1] 26 (0,0))):=⟨h3_⟩
          have n4_:Aside0 (w31.heap[gb881]?=some (.cells #[.slice Ao14 t873.length co14,.slice Ao17 t876.length co17] 46 (0,0))):=⟨h4_⟩
          have n5_:Aside0 (Below w.heap.size w w31):=⟨h5_⟩
          clear HO_882000
          clear HO_882001
          clear BK870
          clear BK881
          clear HB
          clear h0_ h1_ h2_ h3_ h4_ h5_
          have HO886:=n0_
          have HO_882000:=n1_
          have HO_882001:=n2_
          have BK870:=n3_
          have BK881:=n4_
          have HB:=n5_
          clear n0_ n1_ n2_ n3_ n4_ n5_
          have hHeld:w31.cell? ⟨gb870,0,none⟩=some (.slice A0_0 l0_0.length c0_0)∧w31.cell? ⟨gb870,1,none⟩=some (.slice A0_1 l0_1.length c0_1):=hS_
          refine norm_ (a':=?_) ?_ ?_
          rotate_left
          ·simp only [putAll,Act.put,List.setIfInBounds_toArray,List.set_cons_zero,List.set_cons_succ]
           rfl
          refine two_ (i:=5) (j:=10) (Ni:=some 57) (Nj:=some 12) #[true,true,true,true,true,true,false,true,true,false,false,false] #[true,true,true,true,true,false,false,true,true,false,true,false] rfl rfl rfl rfl (two_of HT_.out J0) J11 J11 (fun K hK=>?_) (fun K hK=>?_)
          ·skip
           refine Kd.R_lit_step (Kd.fixed k34 w) _ 34 ?hg (N:=57) ?hd (xs:=([(⟨a1,([]:List (S36)),([]:List ByteArray),([]:List Int),0⟩:S34)]:List (S34))) (inner:=[.string a1,.slice none 0 0,.slice none 0 0,.slice none 0 0,.int .i64 0]) (ok:=fun _=>True) (okp:=fun _=>True) ?hr ?hp (fun _ hk=>hk) trivial (Below.refl _ _) (Nat.le_refl _) J53 ?_;(case hd=>rfl);(case hg=>rfl);(case hr=>first|(go_simp;done)|(go_simp;rfl));(case hp=>exact (Reps.c5 (show Kd.M (Kd.fixed k34 w) _ _ _ (⟨a1,([]:List (S36)),([]:List ByteArray),([]:List Int),0⟩:S34) [.string a1,.slice none 0 0,.slice none 0 0,.slice none 0 0,.int .i64 0] from msY_new w _) (Reps.none _ _)))
           intro v888 w32 ho33 hb hg_ hnew_
           clear hg_ hnew_
           (first|rw [← Ny887.out] at ho33|(simp only [Int.reduceToNat] at ho33;rw [← Ny887.out] at ho33))
           have n0_:=Y0 (Kd.R_below J16 hb)
           have n1_:=Y0 (Kd.R_below J15 hb)
           have n2_:=Y0 (Kd.R_elder' J37 (Kd.R_base ho33) hb)
           have n3_:=Y0 (Kd.R_lower (Kd.R_new' ho33 (Kd.R_lt J37)) (below_size J6))
           have n4_:=Y0 (blk_below (g:=gb870) (o:=.cells #[.slice A0_0 l0_0.length c0_0,.slice A0_1 l0_1.length c0_1] 26 (0,0)) J5 hb)
           have n5_:=Y0 (blk_below (g:=gb881) (o:=.cells #[.slice Ao14 t873.length co14,.slice Ao17 t876.length co17] 46 (0,0)) J9 hb)
           have n6_:=Y0 (below_step J6 hb)
           clear HO_882000
           clear HO_882001
           clear HO886
           clear BK870
           clear BK881
           clear HB
           have HO_882000:=n0_
           have HO_882001:=n1_
           have HO886:=n2_
           have HO889:=n3_
           have BK870:=n4_
           have BK881:=n5_
           have HB:=n6_
           clear n0_ n1_ n2_ n3_ n4_ n5_ n6_
           clear hb ho33
           refine hK.out _ _ ⟨(blk_cell BK870.out 0).trans rfl,(blk_cell BK870.out 1).trans rfl⟩ (fun hHeld=>?_)
           clear hK K
           refine norm_ (a':=?_) ?_ ?_;rotate_left;show Act.put _ (some 57) _=_;simp only [Act.put,Y14,Y15,Y16,i64_w];rfl
           exact norm_ J18 (hJ2_5 (v885,v888) _ ⟨hHeld,J143,J66,J16,J15,J5,J9,J6⟩)
          ·skip
           refine box_step ?hg (N:=12) ?hd (cs:=#[.slice none 0 0,.slice none 0 0]) (t:=26) ?hr ?_;(case hd=>rfl);(case hg=>rfl);(case hr=>first|(go_simp;done)|(go_simp;rfl))
           intro gb893 hg w32 hbox hb
           have n0_:=Y0 (Kd.R_below J16 hb)
           have n1_:=Y0 (Kd.R_below J15 hb)
           have n2_:=Y0 (Kd.R_below J37 hb)
           have n3_:=Y0 (blk_below (g:=gb870) (o:=.cells #[.slice A0_0 l0_0.length c0_0,.slice A0_1 l0_1.length c0_1] 26 (0,0)) J5 hb)
           have n4_:=Y0 (blk_below (g:=gb881) (o:=.cells #[.slice Ao14 t873.length co14,.slice Ao17 t876.length co17] 46 (0,0)) J9 hb)
           have n5_:=Y0 (below_step J6 hb)
           have n6_:=Y0 (hbox)
           have n7_:=Y0 ((by rw [hg];exact (below_size J6):w.heap.size≤gb893))
           have n8_:=Y0 ((by rw [hg];exact (below_size J6):w.heap.size≤gb893))
           have n9_:=Y0 ((by rw [hg];exact Nat.ne_of_lt (blk_lt (g:=gb870) (o:=.cells #[.slice A0_0 l0_0.length c0_0,.slice A0_1 l0_1.length c0_1] 26 (0,0)) J5):gb870≠gb893))
           have n10_:=Y0 ((by rw [hg];exact Nat.ne_of_gt (blk_lt (g:=gb870) (o:=.cells #[.slice A0_0 l0_0.length c0_0,.slice A0_1 l0_1.length c0_1] 26 (0,0)) J5):gb893≠gb870))
           have n11_:=Y0 ((by rw [hg];exact Nat.ne_of_lt (blk_lt (g:=gb881) (o:=.cells #[.slice Ao14 t873.length co14,.slice Ao17 t876.length co17] 46 (0,0)) J9):gb881≠gb893))
           have n12_:=Y0 ((by rw [hg];exact Nat.ne_of_gt (blk_lt (g:=gb881) (o:=.cells #[.slice Ao14 t873.length co14,.slice Ao17 t876.length co17] 46 (0,0)) J9):gb893≠gb881))
           clear HO_882000
           clear HO_882001
           clear HO886
           clear BK870
           clear BK881
           clear HB
           have HO_882000:=n0_
           have HO_882001:=n1_
           have HO886:=n2_
           have BK870:=n3_
           have BK881:=n4_
           have HB:=n5_
           have BK893:=n6_
           have GW893:=n7_
           have GE893:=n8_
           have NB870_893:=n9_
           have NB893_870:=n10_
           have NB881_893:=n11_
           have NB893_881:=n12_
           clear n0_ n1_ n2_ n3_ n4_ n5_ n6_ n7_ n8_ n9_ n10_ n11_ n12_
           clear hb hbox hg
           refine hK.out _ _ ⟨(blk_cell BK870.out 0).trans rfl,(blk_cell BK870.out 1).trans rfl⟩ (fun hHeld=>?_)
           clear hK K
           refine norm_ (a':=?_) ?_ ?_;rotate_left;show Act.put _ (some 12) _=_;simp only [Act.put,Y14,Y15,Y16,i64_w];rfl
           exact norm_ J18 (hJ2_10 (v885,gb893) _ ⟨hHeld,J37,J16,J15,J5,J9,J24,GW893.out,GE893.out,NB870_893.out,NB893_870.out,NB881_893.out,NB893_881.out,J8⟩)
        ·skip
         rintro ⟨v888,gb893⟩ w33 ⟨hS_,h0_,h1_,h2_,h3_,h4_,h5_,h6_,h7_,h8_,h9_,h10_,h11_,h12_⟩
         have n0_:Aside0 (Kd.R (Kd.fixed k34 w) 34 w33 w.heap.size (fun _=>True) v888 y887):=⟨h0_⟩
         have n1_:Aside0 (Kd.R k57 57 w33 w.heap.size (fun _=>True) (.slice Ao14 t873.length co14) t873):=⟨h1_⟩
         have n2_:Aside0 (Kd.R k119 119 w33 w.heap.size (fun _=>True) (.slice Ao17 t876.length co17) t876):=⟨h2_⟩
         have n3_:Aside0 (w33.heap[gb870]?=some (.cells #[.slice A0_0 l0_0.length c0_0,.slice A0_1 l0_1.length c0_1] 26 (0,0))):=⟨h3_⟩
         have n4_:Aside0 (w33.heap[gb881]?=some (.cells #[.slice Ao14 t873.length co14,.slice Ao17 t876.length co17] 46 (0,0))):=⟨h4_⟩
         have n5_:Aside0 (w33.heap[gb893]?=some (.cells #[.slice none 0 0,.slice none 0 0] 26 (0,0))):=⟨h5_⟩
         have n6_:Aside0 (w.heap.size≤gb893):=⟨h6_⟩
         have n7_:Aside0 (w.heap.size≤gb893):=⟨h7_⟩
         have n8_:Aside0 (gb870≠gb893):=⟨h8_⟩
         have n9_:Aside0 (gb893≠gb870):=⟨h9_⟩
         have n10_:Aside0 (gb881≠gb893):=⟨h10_⟩
         have n11_:Aside0 (gb893≠gb881):=⟨h11_⟩
         have n12_:Aside0 (Below w.heap.size w w33):=⟨h12_⟩
         clear HO_882000
         clear HO_882001
         clear BK870
         clear BK881
         clear HB
         clear h0_ h1_ h2_ h3_ h4_ h5_ h6_ h7_ h8_ h9_ h10_ h11_ h12_
         have HO889:=n0_
         have HO_882000:=n1_
         have HO_882001:=n2_
         have BK870:=n3_
         have BK881:=n4_
         have BK893:=n5_
         have GW893:=n6_
         have GE893:=n7_
         have NB870_893:=n8_
         have NB893_870:=n9_
         have NB881_893:=n10_
         have NB893_881:=n11_
         have HB:=n12_
         clear n0_ n1_ n2_ n3_ n4_ n5_ n6_ n7_ n8_ n9_ n10_ n11_ n12_
         have hHeld:w33.cell? ⟨gb870,0,none⟩=some (.slice A0_0 l0_0.length c0_0)∧w33.cell? ⟨gb870,1,none⟩=some (.slice A0_1 l0_1.length c0_1):=hS_
         refine norm_ (a':=?_) ?_ ?_
         rotate_left
         ·simp only [putAll,Act.put,List.setIfInBounds_toArray,List.set_cons_zero,List.set_cons_succ]
          rfl
         refine one_ (i:=2) (N:=some 54) (sqB 12 1471) rfl rfl (one_of HT_.out J0) J11 (fun K hK=>?_)
         refine Kd.R_append_rows_step (Kd.fixed k34 w) (w0:=w) w.heap.size J19 (.const (.slice none 0 0)) (.tmp 53) 23 34 (.agg #[(.string ⟨#[]⟩),(.slice none 0 0),(.slice none 0 0),(.slice none 0 0),(.int .i64 0)]) 96 rfl Tryz.underlying23 info34 rfl (show 0 < 5 from by decide) J7 (.slice none 0 0) ([]:List (S34)) l0_0 _ _ _ (fun k_=>some k_≠(v888:Value).ownBlock) (fun _=>False) rfl rfl ?aO ?aR (fun _ _ h=>h) (fun _ h=>h.elim) ?aF ?aB ?aS ?aL ?_
         (case aR=>exact msY_row HR0_0.out J8)
         (case aB=>exact J8)
         (case aF=>exact (fun k_ hk=>Kd.fresh' (Kd.R_lt J41) k_ hk))
         (case aO=>exact ((Kd.R_nil _ _ _ _ _)))
         (case aS=>exact (below_size J8))
         (case aL=>have:=LMc25.out;omega)
         intro v885 w34 ho hb hg hat
         rw [← Ny884.out] at ho
         have n0_:=Y0 (Kd.R_grown J16 hg (fun _ _=>by simp [Value.ownBlock]))
         have n1_:=Y0 (Kd.R_grown J15 hg (fun _ _=>by simp [Value.ownBlock]))
         have n2_:=Y0 (blk_grown (g:=gb870) (o:=.cells #[.slice A0_0 l0_0.length c0_0,.slice A0_1 l0_1.length c0_1] 26 (0,0)) J5 hg J113)
         have n3_:=Y0 (blk_grown (g:=gb881) (o:=.cells #[.slice Ao14 t873.length co14,.slice Ao17 t876.length co17] 46 (0,0)) J9 hg J113)
         have n4_:=Y0 (Kd.R_after (Kd.R_apart_nil J41) hg hat)
         have n5_:=Y0 (blk_grown (g:=gb893) (o:=.cells #[.slice none 0 0,.slice none 0 0] 26 (0,0)) J24 hg J113)
         have n6_:=Y0 (hb)
         have n7_:=Y0 (ho)
         clear HO_882000
         clear HO_882001
         clear BK870
         clear BK881
         clear HO889
         clear BK893
         clear HB
         have HO_882000:=n0_
         have HO_882001:=n1_
         have BK870:=n2_
         have BK881:=n3_
         have HO889:=n4_
         have BK893:=n5_
         have HB:=n6_
         have HO886:=n7_
         clear n0_ n1_ n2_ n3_ n4_ n5_ n6_ n7_
         clear ho hb hg hat
         refine hK.out _ _ ⟨(blk_cell BK870.out 0).trans rfl,(blk_cell BK870.out 1).trans rfl⟩ (fun hHeld=>?_)
         clear hK K
         refine norm_ (a':=?_) ?_ ?_;rotate_left;show Act.put _ (some 54) _=_;simp only [Act.put,Y14,Y15,Y16,i64_w];rfl
         exact norm_ J18 (hJ2_5_10 (v885,v888,gb893) _ ⟨hHeld,J37,J66,J16,J15,J5,J9,J24,GW893.out,GE893.out,NB870_893.out,NB893_870.out,NB881_893.out,NB893_881.out,J8⟩)
       ·skip
        rintro ⟨v885,gb893⟩ w32 ⟨hS_,h0_,h1_,h2_,h3_,h4_,h5_,h6_,h7_,h8_,h9_,h10_,h11_,h12_⟩
        have n0_:Aside0 (Kd.R (Kd.fixed k34 w) 34 w32 w.heap.size (fun _=>True) v885 y884):=⟨h0_⟩
        have n1_:Aside0 (Kd.R k57 57 w32 w.heap.size (fun _=>True) (.slice Ao14 t873.length co14) t873):=⟨h1_⟩
        have n2_:Aside0 (Kd.R k119 119 w32 w.heap.size (fun _=>True) (.slice Ao17 t876.length co17) t876):=⟨h2_⟩
        have n3_:Aside0 (w32.heap[gb870]?=some (.cells #[.slice A0_0 l0_0.length c0_0,.slice A0_1 l0_1.length c0_1] 26 (0,0))):=⟨h3_⟩
        have n4_:Aside0 (w32.heap[gb881]?=some (.cells #[.slice Ao14 t873.length co14,.slice Ao17 t876.length co17] 46 (0,0))):=⟨h4_⟩
        have n5_:Aside0 (w32.heap[gb893]?=some (.cells #[.slice none 0 0,.slice none 0 0] 26 (0,0))):=⟨h5_⟩
        have n6_:Aside0 (w.heap.size≤gb893):=⟨h6_⟩
        have n7_:Aside0 (w.heap.size≤gb893):=⟨h7_⟩
        have n8_:Aside0 (gb870≠gb893):=⟨h8_⟩
        have n9_:Aside0 (gb893≠gb870):=⟨h9_⟩
        have n10_:Aside0 (gb881≠gb893):=⟨h10_⟩
        have n11_:Aside0 (gb893≠gb881):=⟨h11_⟩
        have n12_:Aside0 (Below w.heap.size w w32):=⟨h12_⟩
        clear HO_882000
        clear HO_882001
        clear BK870
        clear BK881
        clear HB
        clear h0_ h1_ h2_ h3_ h4_ h5_ h6_ h7_ h8_ h9_ h10_ h11_ h12_
        have HO886:=n0_
        have HO_882000:=n1_
        have HO_882001:=n2_
        have BK870:=n3_
        have BK881:=n4_
        have BK893:=n5_
        have GW893:=n6_
        have GE893:=n7_
        have NB870_893:=n8_
        have NB893_870:=n9_
        have NB881_893:=n10_
        have NB893_881:=n11_
        have HB:=n12_
        clear n0_ n1_ n2_ n3_ n4_ n5_ n6_ n7_ n8_ n9_ n10_ n11_ n12_
        have hHeld:w32.cell? ⟨gb870,0,none⟩=some (.slice A0_0 l0_0.length c0_0)∧w32.cell? ⟨gb870,1,none⟩=some (.slice A0_1 l0_1.length c0_1):=hS_
        refine norm_ (a':=?_) ?_ ?_
        rotate_left
        ·simp only [putAll,Act.put,List.setIfInBounds_toArray,List.set_cons_zero,List.set_cons_succ]
         rfl
        refine one_ (i:=5) (N:=some 57) (sqB 12 1471) rfl rfl (one_of HT_.out J0) J11 (fun K hK=>?_)
        refine Kd.R_lit_step (Kd.fixed k34 w) _ 34 ?hg (N:=57) ?hd (xs:=([(⟨a1,([]:List (S36)),([]:List ByteArray),([]:List Int),0⟩:S34)]:List (S34))) (inner:=[.string a1,.slice none 0 0,.slice none 0 0,.slice none 0 0,.int .i64 0]) (ok:=fun _=>True) (okp:=fun _=>True) ?hr ?hp (fun _ hk=>hk) trivial (Below.refl _ _) (Nat.le_refl _) J53 ?_;(case hd=>rfl);(case hg=>rfl);(case hr=>first|(go_simp;done)|(go_simp;rfl));(case hp=>exact (Reps.c5 (show Kd.M (Kd.fixed k34 w) _ _ _ (⟨a1,([]:List (S36)),([]:List ByteArray),([]:List Int),0⟩:S34) [.string a1,.slice none 0 0,.slice none 0 0,.slice none 0 0,.int .i64 0] from msY_new w _) (Reps.none _ _)))
        intro v888 w33 ho34 hb hg_ hnew_
        clear hg_ hnew_
        (first|rw [← Ny887.out] at ho34|(simp only [Int.reduceToNat] at ho34;rw [← Ny887.out] at ho34))
        have n0_:=Y0 (Kd.R_below J16 hb)
        have n1_:=Y0 (Kd.R_below J15 hb)
        have n2_:=Y0 (Kd.R_elder' J37 (Kd.R_base ho34) hb)
        have n3_:=Y0 (Kd.R_lower (Kd.R_new' ho34 (Kd.R_lt J37)) (below_size J8))
        have n4_:=Y0 (blk_below (g:=gb870) (o:=.cells #[.slice A0_0 l0_0.length c0_0,.slice A0_1 l0_1.length c0_1] 26 (0,0)) J5 hb)
        have n5_:=Y0 (blk_below (g:=gb881) (o:=.cells #[.slice Ao14 t873.length co14,.slice Ao17 t876.length co17] 46 (0,0)) J9 hb)
        have n6_:=Y0 (blk_below (g:=gb893) (o:=.cells #[.slice none 0 0,.slice none 0 0] 26 (0,0)) J24 hb)
        have n7_:=Y0 (below_step J8 hb)
        clear HO_882000
        clear HO_882001
        clear HO886
        clear BK870
        clear BK881
        clear BK893
        clear HB
        have HO_882000:=n0_
        have HO_882001:=n1_
        have HO886:=n2_
        have HO889:=n3_
        have BK870:=n4_
        have BK881:=n5_
        have BK893:=n6_
        have HB:=n7_
        clear n0_ n1_ n2_ n3_ n4_ n5_ n6_ n7_
        clear hb ho34
        refine hK.out _ _ ⟨(blk_cell BK870.out 0).trans rfl,(blk_cell BK870.out 1).trans rfl⟩ (fun hHeld=>?_)
        clear hK K
        refine norm_ (a':=?_) ?_ ?_;rotate_left;show Act.put _ (some 57) _=_;simp only [Act.put,Y14,Y15,Y16,i64_w];rfl
        exact norm_ J18 (hJ2_5_10 (v885,v888,gb893) _ ⟨hHeld,J143,J66,J16,J15,J5,J9,J24,GW893.out,GE893.out,NB870_893.out,NB893_870.out,NB881_893.out,NB893_881.out,J8⟩)
      ·skip
       rintro ⟨v885,v888⟩ w33 ⟨hS_,h0_,h1_,h2_,h3_,h4_,h5_,h6_⟩
       have n0_:Aside0 (Kd.R (Kd.fixed k34 w) 34 w33 w.heap.size (fun k_=>some k_≠(v888:Value).ownBlock) v885 y884):=⟨h0_⟩
       have n1_:Aside0 (Kd.R (Kd.fixed k34 w) 34 w33 w.heap.size (fun k_=>some k_≠(v885:Value).ownBlock) v888 y887):=⟨h1_⟩
       have n2_:Aside0 (Kd.R k57 57 w33 w.heap.size (fun _=>True) (.slice Ao14 t873.length co14) t873):=⟨h2_⟩
       have n3_:Aside0 (Kd.R k119 119 w33 w.heap.size (fun _=>True) (.slice Ao17 t876.length co17) t876):=⟨h3_⟩
       have n4_:Aside0 (w33.heap[gb870]?=some (.cells #[.slice A0_0 l0_0.length c0_0,.slice A0_1 l0_1.length c0_1] 26 (0,0))):=⟨h4_⟩
       have n5_:Aside0 (w33.heap[gb881]?=some (.cells #[.slice Ao14 t873.length co14,.slice Ao17 t876.length co17] 46 (0,0))):=⟨h5_⟩
       have n6_:Aside0 (Below w.heap.size w w33):=⟨h6_⟩
       clear HO_882000
       clear HO_882001
       clear BK870
       clear BK881
       clear HB
       clear h0_ h1_ h2_ h3_ h4_ h5_ h6_
       have HO886:=n0_
       have HO889:=n1_
       have HO_882000:=n2_
       have HO_882001:=n3_
       have BK870:=n4_
       have BK881:=n5_
       have HB:=n6_
       clear n0_ n1_ n2_ n3_ n4_ n5_ n6_
       have hHeld:w33.cell? ⟨gb870,0,none⟩=some (.slice A0_0 l0_0.length c0_0)∧w33.cell? ⟨gb870,1,none⟩=some (.slice A0_1 l0_1.length c0_1):=hS_
       obtain ⟨Ao35,co35,eo35⟩:=Kd.R_slice HO889.out
       (first|subst eo35|(injection eo35 with f1_ f2_ f3_;have f4_:=f1_.symm;have f5_:=f3_.symm;clear f1_ f2_ f3_;subst f4_;subst f5_))
       refine norm_ (a':=?_) ?_ ?_
       rotate_left
       ·simp only [putAll,Act.put,List.setIfInBounds_toArray,List.set_cons_zero,List.set_cons_succ]
        rfl
       refine two_ (i:=6) (j:=10) (Ni:=some 58) (Nj:=some 12) #[true,true,true,true,true,true,true,true,true,false,false,false] #[true,true,true,true,true,true,false,true,true,false,true,false] rfl rfl rfl rfl (two_of HT_.out J0) J11 J11 (fun K hK=>?_) (fun K hK=>?_)
       ·skip
        refine Kd.R_append_rows_step (Kd.fixed k34 w) (w0:=w) w.heap.size J19 (.tmp 54) (.tmp 57) 23 34 (.agg #[(.string ⟨#[]⟩),(.slice none 0 0),(.slice none 0 0),(.slice none 0 0),(.int .i64 0)]) 96 rfl Tryz.underlying23 info34 rfl (show 0 < 5 from by decide) J7 v885 y884 y887 _ _ _ (fun k_=>some k_≠(.slice Ao35 y887.length co35:Value).ownBlock) (fun _=>False) rfl rfl ?aO ?aR (fun _ _ h=>h) (fun _ h=>h.elim) ?aF ?aB ?aS ?aL ?_
        (case aR=>repeat (first|exact (Kd.R_reads' HO889.out).2.2|(with_reducible refine Y8 ?_ _)|(with_reducible refine Kd.C_drewN ?_ _)|(with_reducible refine Kd.C_drew ?_)))
        (case aB=>exact J6)
        (case aF=>exact (fun k_ hk=>Kd.fresh' (Kd.R_lt J41) k_ hk))
        (case aO=>exact J37)
        (case aS=>exact (below_size J6))
        (case aL=>have:=LMc26.out;omega)
        intro v891 w34 ho hb hg hat
        rw [← Ny890.out] at ho
        have n0_:=Y0 (Kd.R_over' J16 (Kd.R_typed J37) J11 hg)
        have n1_:=Y0 (Kd.R_over' J15 (Kd.R_typed J37) J11 hg)
        have n2_:=Y0 (blk_grown (g:=gb870) (o:=.cells #[.slice A0_0 l0_0.length c0_0,.slice A0_1 l0_1.length c0_1] 26 (0,0)) J5 hg (Kd.R_ne HO886.out BK870.out J29))
        have n3_:=Y0 (blk_grown (g:=gb881) (o:=.cells #[.slice Ao14 t873.length co14,.slice Ao17 t876.length co17] 46 (0,0)) J9 hg (Kd.R_ne HO886.out BK881.out J29))
        have n4_:=Y0 (Kd.R_after (ok:=(fun _=>True)) J137 hg hat)
        have n5_:=Y0 (hb)
        have n6_:=Y0 (ho)
        clear HO_882000
        clear HO_882001
        clear BK870
        clear BK881
        clear HO889
        clear HB
        clear HO886
        have HO_882000:=n0_
        have HO_882001:=n1_
        have BK870:=n2_
        have BK881:=n3_
        have HO889:=n4_
        have HB:=n5_
        have HO892:=n6_
        clear n0_ n1_ n2_ n3_ n4_ n5_ n6_
        clear ho hb hg hat
        obtain ⟨Ao36,co36,eo36⟩:=Kd.R_slice HO892.out
        (first|subst eo36|(injection eo36 with f1_ f2_ f3_;have f4_:=f1_.symm;have f5_:=f3_.symm;clear f1_ f2_ f3_;subst f4_;subst f5_))
        refine hK.out _ _ ⟨(blk_cell BK870.out 0).trans rfl,(blk_cell BK870.out 1).trans rfl⟩ (fun hHeld=>?_)
        clear hK K
        refine norm_ (a':=?_) ?_ ?_;rotate_left;show Act.put _ (some 58) _=_;simp only [Act.put,Y14,Y15,Y16,i64_w];rfl
        refine pure_ (i:=9) (N:=some 61) (v:=?_) (a':=?_) (sqB 12 1023) rfl rfl (any_of HT_.out J0) (fun _ _ _ h=>h) (Or.inl ⟨J19,?_⟩) ?_ ?_;rotate_left;intro w';go_simp;with_reducible rfl;rotate_left;simp only [Act.put,Y14,Y15,Y16,i64_w];rfl
        exact norm_ J18 (hJ2_5_6 (v885,.slice Ao35 y887.length co35,.slice Ao36 y890.length co36) _ ⟨hHeld,J66,J91,J16,J15,J5,J9,J6⟩)
       ·skip
        refine box_step ?hg (N:=12) ?hd (cs:=#[.slice none 0 0,.slice none 0 0]) (t:=26) ?hr ?_;(case hd=>rfl);(case hg=>rfl);(case hr=>first|(go_simp;done)|(go_simp;rfl))
        intro gb893 hg w34 hbox hb
        have n0_:=Y0 (Kd.R_below J16 hb)
        have n1_:=Y0 (Kd.R_below J15 hb)
        have n2_:=Y0 (Kd.R_below J37 hb)
        have n3_:=Y0 (Kd.R_below J41 hb)
        have n4_:=Y0 (blk_below (g:=gb870) (o:=.cells #[.slice A0_0 l0_0.length c0_0,.slice A0_1 l0_1.length c0_1] 26 (0,0)) J5 hb)
        have n5_:=Y0 (blk_below (g:=gb881) (o:=.cells #[.slice Ao14 t873.length co14,.slice Ao17 t876.length co17] 46 (0,0)) J9 hb)
        have n6_:=Y0 (below_step J6 hb)
        have n7_:=Y0 (hbox)
        have n8_:=Y0 ((by rw [hg];exact (below_size J6):w.heap.size≤gb893))
        have n9_:=Y0 ((by rw [hg];exact (below_size J6):w.heap.size≤gb893))
        have n10_:=Y0 ((by rw [hg];exact Nat.ne_of_lt (blk_lt (g:=gb870) (o:=.cells #[.slice A0_0 l0_0.length c0_0,.slice A0_1 l0_1.length c0_1] 26 (0,0)) J5):gb870≠gb893))
        have n11_:=Y0 ((by rw [hg];exact Nat.ne_of_gt (blk_lt (g:=gb870) (o:=.cells #[.slice A0_0 l0_0.length c0_0,.slice A0_1 l0_1.length c0_1] 26 (0,0)) J5):gb893≠gb870))
        have n12_:=Y0 ((by rw [hg];exact Nat.ne_of_lt (blk_lt (g:=gb881) (o:=.cells #[.slice Ao14 t873.length co14,.slice Ao17 t876.length co17] 46 (0,0)) J9):gb881≠gb893))
        have n13_:=Y0 ((by rw [hg];exact Nat.ne_of_gt (blk_lt (g:=gb881) (o:=.cells #[.slice Ao14 t873.length co14,.slice Ao17 t876.length co17] 46 (0,0)) J9):gb893≠gb881))
        clear HO_882000
        clear HO_882001
        clear HO886
        clear HO889
        clear BK870
        clear BK881
        clear HB
        have HO_882000:=n0_
        have HO_882001:=n1_
        have HO886:=n2_
        have HO889:=n3_
        have BK870:=n4_
        have BK881:=n5_
        have HB:=n6_
        have BK893:=n7_
        have GW893:=n8_
        have GE893:=n9_
        have NB870_893:=n10_
        have NB893_870:=n11_
        have NB881_893:=n12_
        have NB893_881:=n13_
        clear n0_ n1_ n2_ n3_ n4_ n5_ n6_ n7_ n8_ n9_ n10_ n11_ n12_ n13_
        clear hb hbox hg
        refine hK.out _ _ ⟨(blk_cell BK870.out 0).trans rfl,(blk_cell BK870.out 1).trans rfl⟩ (fun hHeld=>?_)
        clear hK K
        refine norm_ (a':=?_) ?_ ?_;rotate_left;show Act.put _ (some 12) _=_;simp only [Act.put,Y14,Y15,Y16,i64_w];rfl
        exact norm_ J18 (hJ2_5_10 (v885,.slice Ao35 y887.length co35,gb893) _ ⟨hHeld,J37,J41,J16,J15,J5,J9,J24,GW893.out,GE893.out,NB870_893.out,NB893_870.out,NB881_893.out,NB893_881.out,J8⟩)
     ·skip
      rintro ⟨v885,v888,gb893⟩ w34 ⟨hS_,h0_,h1_,h2_,h3_,h4_,h5_,h6_,h7_,h8_,h9_,h10_,h11_,h12_,h13_⟩
      have n0_:Aside0 (Kd.R (Kd.fixed k34 w) 34 w34 w.heap.size (fun k_=>some k_≠(v888:Value).ownBlock) v885 y884):=⟨h0_⟩
      have n1_:Aside0 (Kd.R (Kd.fixed k34 w) 34 w34 w.heap.size (fun k_=>some k_≠(v885:Value).ownBlock) v888 y887):=⟨h1_⟩
      have n2_:Aside0 (Kd.R k57 57 w34 w.heap.size (fun _=>True) (.slice Ao14 t873.length co14) t873):=⟨h2_⟩
      have n3_:Aside0 (Kd.R k119 119 w34 w.heap.size (fun _=>True) (.slice Ao17 t876.length co17) t876):=⟨h3_⟩
      have n4_:Aside0 (w34.heap[gb870]?=some (.cells #[.slice A0_0 l0_0.length c0_0,.slice A0_1 l0_1.length c0_1] 26 (0,0))):=⟨h4_⟩
      have n5_:Aside0 (w34.heap[gb881]?=some (.cells #[.slice Ao14 t873.length co14,.slice Ao17 t876.length co17] 46 (0,0))):=⟨h5_⟩
      have n6_:Aside0 (w34.heap[gb893]?=some (.cells #[.slice none 0 0,.slice none 0 0] 26 (0,0))):=⟨h6_⟩
      have n7_:Aside0 (w.heap.size≤gb893):=⟨h7_⟩
      have n8_:Aside0 (w.heap.size≤gb893):=⟨h8_⟩
      have n9_:Aside0 (gb870≠gb893):=⟨h9_⟩
      have n10_:Aside0 (gb893≠gb870):=⟨h10_⟩
      have n11_:Aside0 (gb881≠gb893):=⟨h11_⟩
      have n12_:Aside0 (gb893≠gb881):=⟨h12_⟩
      have n13_:Aside0 (Below w.heap.size w w34):=⟨h13_⟩
      clear HO_882000
      clear HO_882001
      clear BK870
      clear BK881
      clear HB
      clear h0_ h1_ h2_ h3_ h4_ h5_ h6_ h7_ h8_ h9_ h10_ h11_ h12_ h13_
      have HO886:=n0_
      have HO889:=n1_
      have HO_882000:=n2_
      have HO_882001:=n3_
      have BK870:=n4_
      have BK881:=n5_
      have BK893:=n6_
      have GW893:=n7_
      have GE893:=n8_
      have NB870_893:=n9_
      have NB893_870:=n10_
      have NB881_893:=n11_
      have NB893_881:=n12_
      have HB:=n13_
      clear n0_ n1_ n2_ n3_ n4_ n5_ n6_ n7_ n8_ n9_ n10_ n11_ n12_ n13_
      have hHeld:w34.cell? ⟨gb870,0,none⟩=some (.slice A0_0 l0_0.length c0_0)∧w34.cell? ⟨gb870,1,none⟩=some (.slice A0_1 l0_1.length c0_1):=hS_
      obtain ⟨Ao36,co36,eo36⟩:=Kd.R_slice HO889.out
      (first|subst eo36|(injection eo36 with f1_ f2_ f3_;have f4_:=f1_.symm;have f5_:=f3_.symm;clear f1_ f2_ f3_;subst f4_;subst f5_))
      refine norm_ (a':=?_) ?_ ?_
      rotate_left
      ·simp only [putAll,Act.put,List.setIfInBounds_toArray,List.set_cons_zero,List.set_cons_succ]
       rfl
      refine one_ (i:=6) (N:=some 58) (sqB 12 1535) rfl rfl (one_of HT_.out J0) J11 (fun K hK=>?_)
      refine Kd.R_append_rows_step (Kd.fixed k34 w) (w0:=w) w.heap.size J19 (.tmp 54) (.tmp 57) 23 34 (.agg #[(.string ⟨#[]⟩),(.slice none 0 0),(.slice none 0 0),(.slice none 0 0),(.int .i64 0)]) 96 rfl Tryz.underlying23 info34 rfl (show 0 < 5 from by decide) J7 v885 y884 y887 _ _ _ (fun k_=>some k_≠(.slice Ao36 y887.length co36:Value).ownBlock) (fun _=>False) rfl rfl ?aO ?aR (fun _ _ h=>h) (fun _ h=>h.elim) ?aF ?aB ?aS ?aL ?_
      (case aR=>repeat (first|exact (Kd.R_reads' HO889.out).2.2|(with_reducible refine Y8 ?_ _)|(with_reducible refine Kd.C_drewN ?_ _)|(with_reducible refine Kd.C_drew ?_)))
      (case aB=>exact J8)
      (case aF=>exact (fun k_ hk=>Kd.fresh' (Kd.R_lt J41) k_ hk))
      (case aO=>exact J37)
      (case aS=>exact (below_size J8))
      (case aL=>have:=LMc26.out;omega)
      intro v891 w35 ho hb hg hat
      rw [← Ny890.out] at ho
      have n0_:=Y0 (Kd.R_over' J16 (Kd.R_typed J37) J11 hg)
      have n1_:=Y0 (Kd.R_over' J15 (Kd.R_typed J37) J11 hg)
      have n2_:=Y0 (blk_grown (g:=gb870) (o:=.cells #[.slice A0_0 l0_0.length c0_0,.slice A0_1 l0_1.length c0_1] 26 (0,0)) J5 hg (Kd.R_ne HO886.out BK870.out J29))
      have n3_:=Y0 (blk_grown (g:=gb881) (o:=.cells #[.slice Ao14 t873.length co14,.slice Ao17 t876.length co17] 46 (0,0)) J9 hg (Kd.R_ne HO886.out BK881.out J29))
      have n4_:=Y0 (Kd.R_after (ok:=(fun _=>True)) J137 hg hat)
      have n5_:=Y0 (blk_grown (g:=gb893) (o:=.cells #[.slice none 0 0,.slice none 0 0] 26 (0,0)) J24 hg (Kd.R_ne HO886.out BK893.out J29))
      have n6_:=Y0 (hb)
      have n7_:=Y0 (ho)
      clear HO_882000
      clear HO_882001
      clear BK870
      clear BK881
      clear HO889
      clear BK893
      clear HB
      clear HO886
      have HO_882000:=n0_
      have HO_882001:=n1_
      have BK870:=n2_
      have BK881:=n3_
      have HO889:=n4_
      have BK893:=n5_
      have HB:=n6_
      have HO892:=n7_
      clear n0_ n1_ n2_ n3_ n4_ n5_ n6_ n7_
      clear ho hb hg hat
      obtain ⟨Ao37,co37,eo37⟩:=Kd.R_slice HO892.out
      (first|subst eo37|(injection eo37 with f1_ f2_ f3_;have f4_:=f1_.symm;have f5_:=f3_.symm;clear f1_ f2_ f3_;subst f4_;subst f5_))
      refine hK.out _ _ ⟨(blk_cell BK870.out 0).trans rfl,(blk_cell BK870.out 1).trans rfl⟩ (fun hHeld=>?_)
      clear hK K
      refine norm_ (a':=?_) ?_ ?_;rotate_left;show Act.put _ (some 58) _=_;simp only [Act.put,Y14,Y15,Y16,i64_w];rfl
      refine pure_ (i:=9) (N:=some 61) (v:=?_) (a':=?_) (sqB 12 2047) rfl rfl (any_of HT_.out J0) (fun _ _ _ h=>h) (Or.inl ⟨J19,?_⟩) ?_ ?_;rotate_left;intro w';go_simp;with_reducible rfl;rotate_left;simp only [Act.put,Y14,Y15,Y16,i64_w];rfl
      exact norm_ J18 (hJ2_5_6_10 (v885,.slice Ao36 y887.length co36,.slice Ao37 y890.length co37,gb893) _ ⟨hHeld,J66,J91,J16,J15,J5,J9,J24,GW893.out,GE893.out,NB870_893.out,NB893_870.out,NB881_893.out,NB893_881.out,J8⟩)
    ·skip
     rintro ⟨v885,v888,v891⟩ w36 ⟨hS_,h0_,h1_,h2_,h3_,h4_,h5_,h6_⟩
     have n0_:Aside0 (Kd.R (Kd.fixed k34 w) 34 w36 w.heap.size (fun k_=>some k_≠(v891:Value).ownBlock) v888 y887):=⟨h0_⟩
     have n1_:Aside0 (Kd.R (Kd.fixed k34 w) 34 w36 w.heap.size (fun k_=>some k_≠(v888:Value).ownBlock) v891 y890):=⟨h1_⟩
     have n2_:Aside0 (Kd.R k57 57 w36 w.heap.size (fun _=>True) (.slice Ao14 t873.length co14) t873):=⟨h2_⟩
     have n3_:Aside0 (Kd.R k119 119 w36 w.heap.size (fun _=>True) (.slice Ao17 t876.length co17) t876):=⟨h3_⟩
     have n4_:Aside0 (w36.heap[gb870]?=some (.cells #[.slice A0_0 l0_0.length c0_0,.slice A0_1 l0_1.length c0_1] 26 (0,0))):=⟨h4_⟩
     have n5_:Aside0 (w36.heap[gb881]?=some (.cells #[.slice Ao14 t873.length co14,.slice Ao17 t876.length co17] 46 (0,0))):=⟨h5_⟩
     have n6_:Aside0 (Below w.heap.size w w36):=⟨h6_⟩
     clear HO_882000
     clear HO_882001
     clear BK870
     clear BK881
     clear HB
     clear h0_ h1_ h2_ h3_ h4_ h5_ h6_
     have HO889:=n0_
     have HO892:=n1_
     have HO_882000:=n2_
     have HO_882001:=n3_
     have BK870:=n4_
     have BK881:=n5_
     have HB:=n6_
     clear n0_ n1_ n2_ n3_ n4_ n5_ n6_
     have hHeld:w36.cell? ⟨gb870,0,none⟩=some (.slice A0_0 l0_0.length c0_0)∧w36.cell? ⟨gb870,1,none⟩=some (.slice A0_1 l0_1.length c0_1):=hS_
     obtain ⟨Ao37,co37,eo37⟩:=Kd.R_slice HO892.out
     (first|subst eo37|(injection eo37 with f1_ f2_ f3_;have f4_:=f1_.symm;have f5_:=f3_.symm;clear f1_ f2_ f3_;subst f4_;subst f5_))
     refine norm_ (a':=?_) ?_ ?_
     rotate_left
     ·simp only [putAll,Act.put,List.setIfInBounds_toArray,List.set_cons_zero,List.set_cons_succ]
      rfl
     refine one_ (i:=10) (N:=some 12) (sqB 12 2047) rfl rfl (one_of HT_.out J0) J11 (fun K hK=>?_)
     refine box_step ?hg (N:=12) ?hd (cs:=#[.slice none 0 0,.slice none 0 0]) (t:=26) ?hr ?_;(case hd=>rfl);(case hg=>rfl);(case hr=>first|(go_simp;done)|(go_simp;rfl))
     intro gb893 hg w38 hbox hb
     have n0_:=Y0 (Kd.R_below J16 hb)
     have n1_:=Y0 (Kd.R_below J15 hb)
     have n2_:=Y0 (Kd.R_below J41 hb)
     have n3_:=Y0 (Kd.R_below J91 hb)
     have n4_:=Y0 (blk_below (g:=gb870) (o:=.cells #[.slice A0_0 l0_0.length c0_0,.slice A0_1 l0_1.length c0_1] 26 (0,0)) J5 hb)
     have n5_:=Y0 (blk_below (g:=gb881) (o:=.cells #[.slice Ao14 t873.length co14,.slice Ao17 t876.length co17] 46 (0,0)) J9 hb)
     have n6_:=Y0 (below_step J6 hb)
     have n7_:=Y0 (hbox)
     have n8_:=Y0 ((by rw [hg];exact (below_size J6):w.heap.size≤gb893))
     have n9_:=Y0 ((by rw [hg];exact (below_size J6):w.heap.size≤gb893))
     have n10_:=Y0 ((by rw [hg];exact Nat.ne_of_lt (blk_lt (g:=gb870) (o:=.cells #[.slice A0_0 l0_0.length c0_0,.slice A0_1 l0_1.length c0_1] 26 (0,0)) J5):gb870≠gb893))
     have n11_:=Y0 ((by rw [hg];exact Nat.ne_of_gt (blk_lt (g:=gb870) (o:=.cells #[.slice A0_0 l0_0.length c0_0,.slice A0_1 l0_1.length c0_1] 26 (0,0)) J5):gb893≠gb870))
     have n12_:=Y0 ((by rw [hg];exact Nat.ne_of_lt (blk_lt (g:=gb881) (o:=.cells #[.slice Ao14 t873.length co14,.slice Ao17 t876.length co17] 46 (0,0)) J9):gb881≠gb893))
     have n13_:=Y0 ((by rw [hg];exact Nat.ne_of_gt (blk_lt (g:=gb881) (o:=.cells #[.slice Ao14 t873.length co14,.slice Ao17 t876.length co17] 46 (0,0)) J9):gb893≠gb881))
     clear HO_882000
     clear HO_882001
     clear HO889
     clear HO892
     clear BK870
     clear BK881
     clear HB
     have HO_882000:=n0_
     have HO_882001:=n1_
     have HO889:=n2_
     have HO892:=n3_
     have BK870:=n4_
     have BK881:=n5_
     have HB:=n6_
     have BK893:=n7_
     have GW893:=n8_
     have GE893:=n9_
     have NB870_893:=n10_
     have NB893_870:=n11_
     have NB881_893:=n12_
     have NB893_881:=n13_
     clear n0_ n1_ n2_ n3_ n4_ n5_ n6_ n7_ n8_ n9_ n10_ n11_ n12_ n13_
     clear hb hbox hg
     refine hK.out _ _ ⟨(blk_cell BK870.out 0).trans rfl,(blk_cell BK870.out 1).trans rfl⟩ (fun hHeld=>?_)
     clear hK K
     refine norm_ (a':=?_) ?_ ?_;rotate_left;show Act.put _ (some 12) _=_;simp only [Act.put,Y14,Y15,Y16,i64_w];rfl
     exact norm_ J18 (hJ2_5_6_10 (v885,v888,.slice Ao37 y890.length co37,gb893) _ ⟨hHeld,J41,J91,J16,J15,J5,J9,J24,GW893.out,GE893.out,NB870_893.out,NB893_870.out,NB881_893.out,NB893_881.out,J8⟩)
   rintro ⟨v885,v888,v891,gb893⟩ w37 ⟨hS_,h0_,h1_,h2_,h3_,h4_,h5_,h6_,h7_,h8_,h9_,h10_,h11_,h12_,h13_⟩
   have n0_:Aside0 (Kd.R (Kd.fixed k34 w) 34 w37 w.heap.size (fun k_=>some k_≠(v891:Value).ownBlock) v888 y887):=⟨h0_⟩
   have n1_:Aside0 (Kd.R (Kd.fixed k34 w) 34 w37 w.heap.size (fun k_=>some k_≠(v888:Value).ownBlock) v891 y890):=⟨h1_⟩
   have n2_:Aside0 (Kd.R k57 57 w37 w.heap.size (fun _=>True) (.slice Ao14 t873.length co14) t873):=⟨h2_⟩
   have n3_:Aside0 (Kd.R k119 119 w37 w.heap.size (fun _=>True) (.slice Ao17 t876.length co17) t876):=⟨h3_⟩
   have n4_:Aside0 (w37.heap[gb870]?=some (.cells #[.slice A0_0 l0_0.length c0_0,.slice A0_1 l0_1.length c0_1] 26 (0,0))):=⟨h4_⟩
   have n5_:Aside0 (w37.heap[gb881]?=some (.cells #[.slice Ao14 t873.length co14,.slice Ao17 t876.length co17] 46 (0,0))):=⟨h5_⟩
   have n6_:Aside0 (w37.heap[gb893]?=some (.cells #[.slice none 0 0,.slice none 0 0] 26 (0,0))):=⟨h6_⟩
   have n7_:Aside0 (w.heap.size≤gb893):=⟨h7_⟩
   have n8_:Aside0 (w.heap.size≤gb893):=⟨h8_⟩
   have n9_:Aside0 (gb870≠gb893):=⟨h9_⟩
   have n10_:Aside0 (gb893≠gb870):=⟨h10_⟩
   have n11_:Aside0 (gb881≠gb893):=⟨h11_⟩
   have n12_:Aside0 (gb893≠gb881):=⟨h12_⟩
   have n13_:Aside0 (Below w.heap.size w w37):=⟨h13_⟩
   clear HO_882000
   clear HO_882001
   clear BK870
   clear BK881
   clear HB
   clear h0_ h1_ h2_ h3_ h4_ h5_ h6_ h7_ h8_ h9_ h10_ h11_ h12_ h13_
   have HO889:=n0_
   have HO892:=n1_
   have HO_882000:=n2_
   have HO_882001:=n3_
   have BK870:=n4_
   have BK881:=n5_
   have BK893:=n6_
   have GW893:=n7_
   have GE893:=n8_
   have NB870_893:=n9_
   have NB893_870:=n10_
   have NB881_893:=n11_
   have NB893_881:=n12_
   have HB:=n13_
   clear n0_ n1_ n2_ n3_ n4_ n5_ n6_ n7_ n8_ n9_ n10_ n11_ n12_ n13_
   have hHeld:w37.cell? ⟨gb870,0,none⟩=some (.slice A0_0 l0_0.length c0_0)∧w37.cell? ⟨gb870,1,none⟩=some (.slice A0_1 l0_1.length c0_1):=hS_
   obtain ⟨Ao38,co38,eo38⟩:=Kd.R_slice HO892.out
   (first|subst eo38|(injection eo38 with f1_ f2_ f3_;have f4_:=f1_.symm;have f5_:=f3_.symm;clear f1_ f2_ f3_;subst f4_;subst f5_))
   refine norm_ (a':=?_) ?_ ?_
   rotate_left
   ·simp only [putAll,Act.put,List.setIfInBounds_toArray,List.set_cons_zero,List.set_cons_succ]
    rfl
   refine one_ (i:=11) (N:=none) (sqB 12 4095) rfl rfl (one_of HT_.out J0) J11 (fun K hK=>?_)
   have hs39:w37.cell? ⟨gb893,0,none⟩=some (.slice none 0 0):=(blk_cell BK893.out 0).trans rfl
   have hfs39:=blk_frozen BK893.out 0
   have hns39_0:=NB870_893.out
   have hns39_1:=NB881_893.out
   have hms39_0:=NB893_870.out
   have hms39_1:=NB893_881.out
   have hs40:w37.cell? ⟨gb893,1,none⟩=some (.slice none 0 0):=(blk_cell BK893.out 1).trans rfl
   have hfs40:=blk_frozen BK893.out 1
   have hns40_0:=NB870_893.out
   have hns40_1:=NB881_893.out
   have hms40_0:=NB893_870.out
   have hms40_1:=NB893_881.out
   refine skip_ (w1:=?_) J19 rfl ?_ ?_
   rotate_left
   ·go_simp
    rfl
   refine hK.out _ _ ⟨((cell_far (p:=⟨gb893,_,none⟩) NB870_893.out _).trans (((cell_far (p:=⟨gb893,_,none⟩) NB870_893.out _).trans (hHeld.1)))),((cell_far (p:=⟨gb893,_,none⟩) NB870_893.out _).trans (((cell_far (p:=⟨gb893,_,none⟩) NB870_893.out _).trans (hHeld.2))))⟩ (fun hHeld=>?_)
   clear hK K
   refine done_ (done_of HT_.out J0) ?_
   have hnb41:=NB893_870.out
   have hnc41:=NB870_893.out
   have hnb42:=NB893_881.out
   have hnc42:=NB881_893.out
   have ⟨hcz43_0,hcz43_1,hfz43_0,hfz43_1⟩:=sq_box2 BK893.out
   try go_wp2_with (first|((with_reducible refine gate_callee (f:=18) rfl ?_);refine goesL_ (some 64) rfl rfl Tryz.func18 J0 rfl #[.agg #[.slice Ao38 y890.length co38,.slice A0_1 l0_1.length c0_1]] rfl J1 ?_;(with_reducible refine (table_Resolve.calls _ _ y890 _ _ l0_1 t894 t897 t900 t901 _ ?side1 ?side2 ?side3 ?side4 A27.out).mono ?_);(case side1=>refine msY_C (w0:=w) (Kd.R_reads' (e:=34) (base:=w.heap.size) (ok:=fun k_=>some k_≠(v888:Value).ownBlock) (n:=y890.length) (c:=co38) ?_).2.2 J8;exact J85);(case side2=>exact (Kd.R_reads' HO892.out).2.1);(case side3=>exact Kd.C_below HR0_1.out J8);(case side4=>exact HC0_1.out);rintro e w44 ⟨v895,v898,rfl,ho0,ho1,hb⟩;refine ⟨_,rfl,?_⟩;have n0_:=Y0 (Kd.R_elder' J84 (Kd.R_base ho0) hb);have n1_:=Y0 (Kd.R_elder' J83 (Kd.R_base ho1) hb);have n2_:=Y0 (Kd.R_below (by (with_reducible repeat (first|apply Y5|apply Y6|apply Y7));exact (Kd.R_mono (Kd.R_far (p:=⟨gb893,1,none⟩) (Kd.R_far (p:=⟨gb893,0,none⟩) (Kd.R_types HO889.out BK893.out J29) (fun _ hk=>hk.2) (.slice Ao38 y890.length co38)) (fun _ hk=>hk.2) (.slice A0_1 l0_1.length c0_1)) (fun _ h_=>h_.1))) hb);have n3_:=Y0 (Kd.R_below J85 hb);have n4_:=Y0 (Kd.R_lower (Kd.R_new' ho0 (Kd.R_lt J84)) (below_size J8));have n5_:=Y0 (Kd.R_lower (Kd.R_new' ho1 (Kd.R_lt J83)) (below_size J8));have n6_:=Y0 (blk_below (g:=gb870) (o:=.cells #[.slice A0_0 l0_0.length c0_0,.slice A0_1 l0_1.length c0_1] 26 (0,0)) (by (with_reducible repeat first|apply Y11|apply Y13|apply Y12);refine blk_far ?_ NB870_893.out _;(with_reducible repeat first|apply Y11|apply Y13|apply Y12);refine blk_far ?_ NB870_893.out _;(with_reducible repeat first|apply Y11|apply Y13|apply Y12);exact BK870.out) hb);have n7_:=Y0 (blk_below (g:=gb881) (o:=.cells #[.slice Ao14 t873.length co14,.slice Ao17 t876.length co17] 46 (0,0)) (by (with_reducible repeat first|apply Y11|apply Y13|apply Y12);refine blk_far ?_ NB881_893.out _;(with_reducible repeat first|apply Y11|apply Y13|apply Y12);refine blk_far ?_ NB881_893.out _;(with_reducible repeat first|apply Y11|apply Y13|apply Y12);exact BK881.out) hb);have n8_:=Y0 (blk_below (g:=gb893) (o:=.cells #[.slice Ao38 y890.length co38,.slice A0_1 l0_1.length c0_1] 26 (0,0)) (by (with_reducible repeat first|apply Y11|apply Y13|apply Y12);refine blk_put (cs:=#[.slice Ao38 y890.length co38,.slice none 0 0]) ?_ 1 _ rfl;(with_reducible repeat first|apply Y11|apply Y13|apply Y12);refine blk_put (cs:=#[.slice none 0 0,.slice none 0 0]) ?_ 0 _ rfl;(with_reducible repeat first|apply Y11|apply Y13|apply Y12);exact BK893.out) hb);have n9_:=Y0 (below_step J8 hb);clear HO_882000;clear HO_882001;clear HO889;clear HO892;clear BK870;clear BK881;clear BK893;clear HB;have HO_882000:=n0_;have HO_882001:=n1_;have HO889:=n2_;have HO892:=n3_;have HO896:=n4_;have HO899:=n5_;have BK870:=n6_;have BK881:=n7_;have BK893:=n8_;have HB:=n9_;clear n0_ n1_ n2_ n3_ n4_ n5_ n6_ n7_ n8_ n9_;(try clear hb);(try clear hb2);(try clear hk);(try clear hi);(try clear ho0);(try clear ho1))|((with_reducible refine gate_dst (N:=13) rfl ?_);(try (refine gate_guard J19 ?_;dsimp only));refine box_event ?hg (N:=13) ?hd (cs:=#[.slice none 0 0,.slice none 0 0]) (t:=46) ?hr ?_;(case hd=>rfl);(case hg=>rfl);(case hr=>first|(go_simp;done)|(go_simp;rfl));intro gb902 hg w45 hbox hb;have n0_:=Y0 (Kd.R_below J16 hb);have n1_:=Y0 (Kd.R_below J15 hb);have n2_:=Y0 (Kd.R_below J41 hb);have n3_:=Y0 (Kd.R_below J91 hb);have n4_:=Y0 (Kd.R_below (by (with_reducible repeat (first|apply Y5|apply Y6|apply Y7));exact HO896.out) hb);have n5_:=Y0 (Kd.R_below (by (with_reducible repeat (first|apply Y5|apply Y6|apply Y7));exact HO899.out) hb);have n6_:=Y0 (blk_below (g:=gb870) (o:=.cells #[.slice A0_0 l0_0.length c0_0,.slice A0_1 l0_1.length c0_1] 26 (0,0)) J5 hb);have n7_:=Y0 (blk_below (g:=gb881) (o:=.cells #[.slice Ao14 t873.length co14,.slice Ao17 t876.length co17] 46 (0,0)) J9 hb);have n8_:=Y0 (blk_below (g:=gb893) (o:=.cells #[.slice Ao38 y890.length co38,.slice A0_1 l0_1.length c0_1] 26 (0,0)) J24 hb);have n9_:=Y0 (below_step J8 hb);have n10_:=Y0 (hbox);have n11_:=Y0 ((by rw [hg];exact (below_size J8):w.heap.size≤gb902));have n12_:=Y0 ((by rw [hg];exact (below_size J8):w.heap.size≤gb902));have n13_:=Y0 ((by rw [hg];exact Nat.ne_of_lt (blk_lt (g:=gb870) (o:=.cells #[.slice A0_0 l0_0.length c0_0,.slice A0_1 l0_1.length c0_1] 26 (0,0)) J5):gb870≠gb902));have n14_:=Y0 ((by rw [hg];exact Nat.ne_of_gt (blk_lt (g:=gb870) (o:=.cells #[.slice A0_0 l0_0.length c0_0,.slice A0_1 l0_1.length c0_1] 26 (0,0)) J5):gb902≠gb870));have n15_:=Y0 ((by rw [hg];exact Nat.ne_of_lt (blk_lt (g:=gb881) (o:=.cells #[.slice Ao14 t873.length co14,.slice Ao17 t876.length co17] 46 (0,0)) J9):gb881≠gb902));have n16_:=Y0 ((by rw [hg];exact Nat.ne_of_gt (blk_lt (g:=gb881) (o:=.cells #[.slice Ao14 t873.length co14,.slice Ao17 t876.length co17] 46 (0,0)) J9):gb902≠gb881));have n17_:=Y0 ((by rw [hg];exact Nat.ne_of_lt (blk_lt (g:=gb893) (o:=.cells #[.slice Ao38 y890.length co38,.slice A0_1 l0_1.length c0_1] 26 (0,0)) J24):gb893≠gb902));have n18_:=Y0 ((by rw [hg];exact Nat.ne_of_gt (blk_lt (g:=gb893) (o:=.cells #[.slice Ao38 y890.length co38,.slice A0_1 l0_1.length c0_1] 26 (0,0)) J24):gb902≠gb893));clear HO_882000;clear HO_882001;clear HO889;clear HO892;clear HO896;clear HO899;clear BK870;clear BK881;clear BK893;clear HB;have HO_882000:=n0_;have HO_882001:=n1_;have HO889:=n2_;have HO892:=n3_;have HO896:=n4_;have HO899:=n5_;have BK870:=n6_;have BK881:=n7_;have BK893:=n8_;have HB:=n9_;have BK902:=n10_;have GW902:=n11_;have GE902:=n12_;have NB870_902:=n13_;have NB902_870:=n14_;have NB881_902:=n15_;have NB902_881:=n16_;have NB893_902:=n17_;have NB902_893:=n18_;clear n0_ n1_ n2_ n3_ n4_ n5_ n6_ n7_ n8_ n9_ n10_ n11_ n12_ n13_ n14_ n15_ n16_ n17_ n18_;clear hb hbox hg;obtain ⟨Ao46,co46,eo46⟩:=Kd.R_slice HO896.out;subst eo46;have hnb47:=NB902_870.out;have hnc47:=NB870_902.out;have hnb48:=NB902_881.out;have hnc48:=NB881_902.out;have hnb49:=NB902_893.out;have hnc49:=NB893_902.out;have ⟨hcz50_0,hcz50_1,hfz50_0,hfz50_1⟩:=sq_box2 BK902.out;obtain ⟨Ao51,co51,eo51⟩:=Kd.R_slice HO899.out;subst eo51))
   go_loopg [16,17] kj5 (fun kq v16 v17 w'=>∃ (x16_2:Bool) (x17_2:Int),v16 = .bool x16_2∧v17 = .int .i64 x17_2∧Aside0 (trufflelaw08_TableMore.l0 kq a1 t901 x16_2 x17_2 l0_0 l0_1 t873 t876 t894 t897=some true)∧Aside0 (kq≤kj5)∧Aside0 (Kd.R k57 57 w' w.heap.size (fun k_=>some k_≠((.slice Ao46 t894.length co46):Value).ownBlock) (.slice Ao14 t873.length co14) t873)∧Aside0 (Kd.R k119 119 w' w.heap.size (fun k_=>some k_≠((.slice Ao51 t897.length co51):Value).ownBlock) (.slice Ao17 t876.length co17) t876)∧Aside0 (Kd.R (Kd.fixed k34 w) 34 w' w.heap.size (fun _=>True) (.slice Ao38 y890.length co38) y890)∧Aside0 (Kd.R k57 57 w' w.heap.size (fun k_=>some k_≠((.slice Ao14 t873.length co14):Value).ownBlock) (.slice Ao46 t894.length co46) t894)∧Aside0 (Kd.R k119 119 w' w.heap.size (fun k_=>some k_≠((.slice Ao17 t876.length co17):Value).ownBlock) (.slice Ao51 t897.length co51) t897)∧Aside0 (w'.heap[gb870]?=some (.cells #[(.slice A0_0 l0_0.length c0_0),(.slice A0_1 l0_1.length c0_1)] 26 (0,0)))∧Aside0 (w'.heap[gb881]?=some (.cells #[(.slice Ao14 t873.length co14),(.slice Ao17 t876.length co17)] 46 (0,0)))∧Aside0 (w'.heap[gb893]?=some (.cells #[(.slice Ao38 y890.length co38),(.slice A0_1 l0_1.length c0_1)] 26 (0,0)))∧Aside0 (w'.heap[gb902]?=some (.cells #[(.slice Ao46 t894.length co46),(.slice Ao51 t897.length co51)] 46 (0,0)))∧Aside0 (Below w.heap.size w w'))
   case atStart=>exact ⟨(t883),(0),J12,J12,H',⟨Nat.le_refl _⟩,⟨by (with_reducible repeat (first|apply Y5|apply Y6|apply Y7));exact Kd.R_mono (Kd.R_far (p:=⟨gb902,1,none⟩) (Kd.R_far (p:=⟨gb902,0,none⟩) (Kd.R_types HO_882000.out BK902.out J29) (fun _ hk=>hk.2) (.slice Ao46 t894.length co46)) (fun _ hk=>hk.2) (.slice Ao51 t897.length co51)) (fun _ hk=>hk.1.2)⟩,⟨by (with_reducible repeat (first|apply Y5|apply Y6|apply Y7));exact Kd.R_mono (Kd.R_far (p:=⟨gb902,1,none⟩) (Kd.R_far (p:=⟨gb902,0,none⟩) (Kd.R_types HO_882001.out BK902.out J29) (fun _ hk=>hk.2) (.slice Ao46 t894.length co46)) (fun _ hk=>hk.2) (.slice Ao51 t897.length co51)) (fun _ hk=>hk.1.2)⟩,⟨by (with_reducible repeat (first|apply Y5|apply Y6|apply Y7));exact Kd.R_mono (Kd.R_far (p:=⟨gb902,1,none⟩) (Kd.R_far (p:=⟨gb902,0,none⟩) (Kd.R_types HO892.out BK902.out J29) (fun _ hk=>hk.2) (.slice Ao46 t894.length co46)) (fun _ hk=>hk.2) (.slice Ao51 t897.length co51)) (fun _ hk=>trivial)⟩,⟨by (with_reducible repeat (first|apply Y5|apply Y6|apply Y7));exact Kd.R_mono (Kd.R_far (p:=⟨gb902,1,none⟩) (Kd.R_far (p:=⟨gb902,0,none⟩) (Kd.R_types HO896.out BK902.out J29) (fun _ hk=>hk.2) (.slice Ao46 t894.length co46)) (fun _ hk=>hk.2) (.slice Ao51 t897.length co51)) (fun _ hk=>hk.1.2)⟩,⟨by (with_reducible repeat (first|apply Y5|apply Y6|apply Y7));exact Kd.R_mono (Kd.R_far (p:=⟨gb902,1,none⟩) (Kd.R_far (p:=⟨gb902,0,none⟩) (Kd.R_types HO899.out BK902.out J29) (fun _ hk=>hk.2) (.slice Ao46 t894.length co46)) (fun _ hk=>hk.2) (.slice Ao51 t897.length co51)) (fun _ hk=>hk.1.2)⟩,⟨by (with_reducible repeat first|apply Y11|apply Y13|apply Y12);refine blk_far ?_ NB870_902.out _;(with_reducible repeat first|apply Y11|apply Y13|apply Y12);refine blk_far ?_ NB870_902.out _;(with_reducible repeat first|apply Y11|apply Y13|apply Y12);exact BK870.out⟩,⟨by (with_reducible repeat first|apply Y11|apply Y13|apply Y12);refine blk_far ?_ NB881_902.out _;(with_reducible repeat first|apply Y11|apply Y13|apply Y12);refine blk_far ?_ NB881_902.out _;(with_reducible repeat first|apply Y11|apply Y13|apply Y12);exact BK881.out⟩,⟨by (with_reducible repeat first|apply Y11|apply Y13|apply Y12);refine blk_far ?_ NB893_902.out _;(with_reducible repeat first|apply Y11|apply Y13|apply Y12);refine blk_far ?_ NB893_902.out _;(with_reducible repeat first|apply Y11|apply Y13|apply Y12);exact BK893.out⟩,⟨by (with_reducible repeat first|apply Y11|apply Y13|apply Y12);refine blk_put (cs:=#[.slice Ao46 t894.length co46,.slice none 0 0]) ?_ 1 _ rfl;(with_reducible repeat first|apply Y11|apply Y13|apply Y12);refine blk_put (cs:=#[.slice none 0 0,.slice none 0 0]) ?_ 0 _ rfl;(with_reducible repeat first|apply Y11|apply Y13|apply Y12);exact BK902.out⟩,⟨J26⟩⟩
   case round =>
    clear H'
    obtain ⟨x16_2,x17_2,rfl,rfl,HA,HK2,HO_882000,HO_882001,HO_894000,HO_903000,HO_903001,BK870,BK881,BK893,BK902,HB⟩:=hrel
    cases gk with
    | zero=>exact absurd HA.out (by simp [trufflelaw08_TableMore.l0])
    | succ k2 =>
     have H:=HA.out
     clear HA
     simp only [trufflelaw08_TableMore.l0] at H
     by_cases c52:x17_2 < (l0_0.length:Int)
     ·rw [if_pos c52] at H
      have c52b0:decide (x17_2 < (l0_0.length:Int))=true:=decide_eq_true c52
      clear c52
      by_cases c53:x16_2=true
      ·subst c53
       rw [if_pos rfl] at H
       have H':=Y0 H
       clear H
       have hnb54:=NB870_881.out
       have hnc54:=NB881_870.out
       have hnb55:=NB870_893.out
       have hnc55:=NB893_870.out
       have hnb56:=NB870_902.out
       have hnc56:=NB902_870.out
       have ⟨hcz57_0,hcz57_1,hfz57_0,hfz57_1⟩:=sq_box2 BK870.out
       go_wp2
       go_roundg k2
       case measure=>have:=HJ5.out;have:=HK2.out;omega
       case rel=>exact ⟨(true),(wrap64 (x17_2 + 1)),J12,J12,H',⟨by have:=HJ5.out;have:=HK2.out;omega⟩,⟨J16⟩,⟨J15⟩,⟨J61⟩,⟨J60⟩,⟨J59⟩,⟨J5⟩,⟨J9⟩,⟨J24⟩,⟨J62⟩,⟨J26⟩⟩
      replace c53:=Bool.eq_false_iff.mpr c53
      subst c53
      rw [if_neg (show ¬ (false=true) by decide)] at H
      by_cases c58:0≤x17_2
      rotate_left
      ·rw [if_neg c58] at H
       exact absurd H J53
      rw [if_pos c58] at H
      have c58b0:decide (0≤x17_2)=true:=decide_eq_true c58
      clear c58
      have H':=Y0 H
      clear H
      have hnb59:=NB870_881.out
      have hnc59:=NB881_870.out
      have hnb60:=NB870_893.out
      have hnc60:=NB893_870.out
      have hnb61:=NB870_902.out
      have hnc61:=NB902_870.out
      have ⟨hcz62_0,hcz62_1,hfz62_0,hfz62_1⟩:=sq_box2 BK870.out
      have p903:0≤(x17_2:Int):=of_decide_eq_true J3
      have q903:x17_2 < (l0_0.length:Int):=of_decide_eq_true J3
      obtain ⟨ad903,A903_1,c903_1,A903_2,c903_2,A903_3,c903_3,e903,hx903_0,hx903_1,hx903_2,hx903_3,hx903_4,hl903_1,hi903_1,hl903_2,hi903_2,hl903_3,hi903_3⟩:=at_T34 HR0_0.out x17_2 p903 q903
      cases e903
      replace hx903_0:=(HB.out.cell (World.block_lt_of_cell? w _ hx903_0)).trans hx903_0
      replace hx903_1:=(HB.out.cell (World.block_lt_of_cell? w _ hx903_1)).trans hx903_1
      replace hx903_2:=(HB.out.cell (World.block_lt_of_cell? w _ hx903_2)).trans hx903_2
      replace hx903_3:=(HB.out.cell (World.block_lt_of_cell? w _ hx903_3)).trans hx903_3
      replace hx903_4:=(HB.out.cell (World.block_lt_of_cell? w _ hx903_4)).trans hx903_4
      have HR903_1:=Y0 hi903_1
      have HC903_1:=Y0 hl903_1
      clear hi903_1 hl903_1
      have HR903_2:=Y0 hi903_2
      have HC903_2:=Y0 hl903_2
      clear hi903_2 hl903_2
      have HR903_3:=Y0 hi903_3
      have HC903_3:=Y0 hl903_3
      clear hi903_3 hl903_3
      replace p903:=eq_true p903
      replace q903:=eq_true q903
      go_wp2
      go_roundg k2
      case measure=>have:=HJ5.out;have:=HK2.out;omega
      case rel=>exact ⟨((((rd_T34 l0_0 x17_2).f0).toList == a1.toList)),(wrap64 (x17_2 + 1)),J12,J12,H',⟨by have:=HJ5.out;have:=HK2.out;omega⟩,⟨J16⟩,⟨J15⟩,⟨J61⟩,⟨J60⟩,⟨J59⟩,⟨J5⟩,⟨J9⟩,⟨J24⟩,⟨J62⟩,⟨J26⟩⟩
     rw [if_neg c52] at H
     have c52b0:decide (x17_2 < (l0_0.length:Int))=false:=decide_eq_false c52
     clear c52
     have H':=Y0 H
     clear H
     have hnb63:=NB870_881.out
     have hnc63:=NB881_870.out
     have hnb64:=NB870_893.out
     have hnc64:=NB893_870.out
     have hnb65:=NB870_902.out
     have hnc65:=NB902_870.out
     have ⟨hcz66_0,hcz66_1,hfz66_0,hfz66_1⟩:=sq_box2 BK870.out
     go_wp2
     go_loopg [16,18] k2 (fun kq v16 v18 w'=>∃ (x16_3:Bool) (x18_3:Int),v16 = .bool x16_3∧v18 = .int .i64 x18_3∧Aside0 (trufflelaw08_TableMore.l1 kq a1 t901 x16_3 x18_3 l0_0 l0_1 t873 t876 t894 t897=some true)∧Aside0 (kq≤k2)∧Aside0 (Kd.R k57 57 w' w.heap.size (fun k_=>some k_≠((.slice Ao46 t894.length co46):Value).ownBlock) (.slice Ao14 t873.length co14) t873)∧Aside0 (Kd.R k119 119 w' w.heap.size (fun k_=>some k_≠((.slice Ao51 t897.length co51):Value).ownBlock) (.slice Ao17 t876.length co17) t876)∧Aside0 (Kd.R (Kd.fixed k34 w) 34 w' w.heap.size (fun _=>True) (.slice Ao38 y890.length co38) y890)∧Aside0 (Kd.R k57 57 w' w.heap.size (fun k_=>some k_≠((.slice Ao14 t873.length co14):Value).ownBlock) (.slice Ao46 t894.length co46) t894)∧Aside0 (Kd.R k119 119 w' w.heap.size (fun k_=>some k_≠((.slice Ao17 t876.length co17):Value).ownBlock) (.slice Ao51 t897.length co51) t897)∧Aside0 (w'.heap[gb870]?=some (.cells #[(.slice A0_0 l0_0.length c0_0),(.slice A0_1 l0_1.length c0_1)] 26 (0,0)))∧Aside0 (w'.heap[gb881]?=some (.cells #[(.slice Ao14 t873.length co14),(.slice Ao17 t876.length co17)] 46 (0,0)))∧Aside0 (w'.heap[gb893]?=some (.cells #[(.slice Ao38 y890.length co38),(.slice A0_1 l0_1.length c0_1)] 26 (0,0)))∧Aside0 (w'.heap[gb902]?=some (.cells #[(.slice Ao46 t894.length co46),(.slice Ao51 t897.length co51)] 46 (0,0)))∧Aside0 (Below w.heap.size w w'))
     case atStart=>exact ⟨(x16_2),(0),J12,J12,H',⟨Nat.le_refl _⟩,⟨J16⟩,⟨J15⟩,⟨J61⟩,⟨J60⟩,⟨J59⟩,⟨J5⟩,⟨J9⟩,⟨J24⟩,⟨J62⟩,⟨J26⟩⟩
     case round =>
      clear H'
      obtain ⟨x16_3,x18_3,rfl,rfl,HA,HK3,HO_882000,HO_882001,HO_894000,HO_903000,HO_903001,BK870,BK881,BK893,BK902,HB⟩:=hrel
      cases gk with
      | zero=>exact absurd HA.out (by simp [trufflelaw08_TableMore.l1])
      | succ k3 =>
       have H:=HA.out
       clear HA
       simp only [trufflelaw08_TableMore.l1] at H
       by_cases c67:x18_3 < (l0_1.length:Int)
       ·rw [if_pos c67] at H
        have c67b0:decide (x18_3 < (l0_1.length:Int))=true:=decide_eq_true c67
        clear c67
        by_cases c68:x16_3=true
        ·subst c68
         rw [if_pos rfl] at H
         have H':=Y0 H
         clear H
         have hnb69:=NB870_881.out
         have hnc69:=NB881_870.out
         have hnb70:=NB870_893.out
         have hnc70:=NB893_870.out
         have hnb71:=NB870_902.out
         have hnc71:=NB902_870.out
         have ⟨hcz72_0,hcz72_1,hfz72_0,hfz72_1⟩:=sq_box2 BK870.out
         go_wp2
         go_roundg k3
         case measure=>have:=HJ5.out;have:=HK2.out;have:=HK3.out;omega
         case rel=>exact ⟨(true),(wrap64 (x18_3 + 1)),J12,J12,H',⟨J167⟩,⟨J16⟩,⟨J15⟩,⟨J61⟩,⟨J60⟩,⟨J59⟩,⟨J5⟩,⟨J9⟩,⟨J24⟩,⟨J62⟩,⟨J26⟩⟩
        replace c68:=Bool.eq_false_iff.mpr c68
        subst c68
        rw [if_neg (show ¬ (false=true) by decide)] at H
        by_cases c73:0≤x18_3
        rotate_left
        ·rw [if_neg c73] at H
         exact absurd H J53
        rw [if_pos c73] at H
        have c73b0:decide (0≤x18_3)=true:=decide_eq_true c73
        clear c73
        have H':=Y0 H
        clear H
        have hnb74:=NB870_881.out
        have hnc74:=NB881_870.out
        have hnb75:=NB870_893.out
        have hnc75:=NB893_870.out
        have hnb76:=NB870_902.out
        have hnc76:=NB902_870.out
        have ⟨hcz77_0,hcz77_1,hfz77_0,hfz77_1⟩:=sq_box2 BK870.out
        have p904:0≤(x18_3:Int):=of_decide_eq_true J3
        have q904:x18_3 < (l0_1.length:Int):=of_decide_eq_true J3
        obtain ⟨ad904,A904_1,c904_1,e904,hx904_0,hx904_1,hx904_2,hl904_1,hi904_1⟩:=at_T68 HR0_1.out x18_3 p904 q904
        cases e904
        replace hx904_0:=(HB.out.cell (World.block_lt_of_cell? w _ hx904_0)).trans hx904_0
        replace hx904_1:=(HB.out.cell (World.block_lt_of_cell? w _ hx904_1)).trans hx904_1
        replace hx904_2:=(HB.out.cell (World.block_lt_of_cell? w _ hx904_2)).trans hx904_2
        have HR904_1:=Y0 hi904_1
        have HC904_1:=Y0 hl904_1
        clear hi904_1 hl904_1
        replace p904:=eq_true p904
        replace q904:=eq_true q904
        go_wp2
        go_roundg k3
        case measure=>have:=HJ5.out;have:=HK2.out;have:=HK3.out;omega
        case rel=>exact ⟨((((rd_T68 l0_1 x18_3).f0).toList == a1.toList)),(wrap64 (x18_3 + 1)),J12,J12,H',⟨J167⟩,⟨J16⟩,⟨J15⟩,⟨J61⟩,⟨J60⟩,⟨J59⟩,⟨J5⟩,⟨J9⟩,⟨J24⟩,⟨J62⟩,⟨J26⟩⟩
       rw [if_neg c67] at H
       have c67b0:decide (x18_3 < (l0_1.length:Int))=false:=decide_eq_false c67
       clear c67
       have HC78:=Y0 H
       clear H
       have hnb79:=NB870_881.out
       have hnc79:=NB881_870.out
       have hnb80:=NB870_893.out
       have hnc80:=NB893_870.out
       have hnb81:=NB870_902.out
       have hnc81:=NB902_870.out
       have ⟨hcz82_0,hcz82_1,hfz82_0,hfz82_1⟩:=sq_box2 BK870.out
       go_upto_region 18 with (fail)
       go_cut [109] (fun v109 wc=>∃ (kq:Nat) (x109_77:Bool),v109 = .bool x109_77∧Aside0 (trufflelaw08_TableMore.j3 kq a1 t901 x16_3 x109_77 l0_0 l0_1 t873 t876 t894 t897=some true)∧Aside0 (kq≤k3)∧Aside0 (Kd.R k57 57 wc w.heap.size (fun k_=>some k_≠((.slice Ao46 t894.length co46):Value).ownBlock) (.slice Ao14 t873.length co14) t873)∧Aside0 (Kd.R k119 119 wc w.heap.size (fun k_=>some k_≠((.slice Ao51 t897.length co51):Value).ownBlock) (.slice Ao17 t876.length co17) t876)∧Aside0 (Kd.R (Kd.fixed k34 w) 34 wc w.heap.size (fun _=>True) (.slice Ao38 y890.length co38) y890)∧Aside0 (Kd.R k57 57 wc w.heap.size (fun k_=>some k_≠((.slice Ao14 t873.length co14):Value).ownBlock) (.slice Ao46 t894.length co46) t894)∧Aside0 (Kd.R k119 119 wc w.heap.size (fun k_=>some k_≠((.slice Ao17 t876.length co17):Value).ownBlock) (.slice Ao51 t897.length co51) t897)∧Aside0 (wc.heap[gb870]?=some (.cells #[(.slice A0_0 l0_0.length c0_0),(.slice A0_1 l0_1.length c0_1)] 26 (0,0)))∧Aside0 (wc.heap[gb881]?=some (.cells #[(.slice Ao14 t873.length co14),(.slice Ao17 t876.length co17)] 46 (0,0)))∧Aside0 (wc.heap[gb893]?=some (.cells #[(.slice Ao38 y890.length co38),(.slice A0_1 l0_1.length c0_1)] 26 (0,0)))∧Aside0 (wc.heap[gb902]?=some (.cells #[(.slice Ao46 t894.length co46),(.slice Ao51 t897.length co51)] 46 (0,0)))∧Aside0 (Below w.heap.size w wc))
       case first =>
        have H:=HC78.out
        clear HC78
        by_cases c83:x16_3=true
        ·subst c83
         rw [if_pos rfl] at H
         have H':=Y0 H
         clear H
         go_wp2
         go_meet
         case rel=>exact ⟨_,(true),J12,H',⟨J152⟩,⟨J16⟩,⟨J15⟩,⟨J61⟩,⟨J60⟩,⟨J59⟩,⟨J5⟩,⟨J9⟩,⟨J24⟩,⟨J62⟩,⟨J26⟩⟩
        replace c83:=Bool.eq_false_iff.mpr c83
        subst c83
        rw [if_neg (show ¬ (false=true) by decide)] at H
        have H':=Y0 H
        clear H
        go_wp2
        go_meet
        case rel=>exact ⟨_,((t901 != 0)),J12,H',⟨J152⟩,⟨J16⟩,⟨J15⟩,⟨J61⟩,⟨J60⟩,⟨J59⟩,⟨J5⟩,⟨J9⟩,⟨J24⟩,⟨J62⟩,⟨J26⟩⟩
       case rest =>
        clear HC78
        obtain ⟨kq,x109_77,rfl,HA,HJ77,HO_882000,HO_882001,HO_894000,HO_903000,HO_903001,BK870,BK881,BK893,BK902,HB⟩:=hcut
        cases kq with
        | zero=>exact absurd HA.out (by simp [trufflelaw08_TableMore.j3])
        | succ kj77 =>
         have H:=HA.out
         clear HA
         simp only [trufflelaw08_TableMore.j3] at H
         by_cases c84:x109_77=true
         ·subst c84
          rw [if_pos rfl] at H
          by_cases c85:x16_3=true
          rotate_left
          ·replace c85:=Bool.eq_false_iff.mpr c85
           subst c85
           rw [if_neg (show ¬ (false=true) by decide)] at H
           exact absurd (Option.some.inj H) Bool.false_ne_true
          subst c85
          rw [if_pos rfl] at H
          have hv_:=Option.some.inj H
          go_wp2
          go_ret
          exact ⟨J114,J26⟩
         replace c84:=Bool.eq_false_iff.mpr c84
         subst c84
         rw [if_neg (show ¬ (false=true) by decide)] at H
         replace H:=Y17.mp H
         obtain ⟨⟨t905,t906⟩,A860,H⟩:=H
         try dsimp only at H
         have A86:=Y0 A860
         clear A860
         by_cases c87:(t894.length:Int)=0
         ·rw [if_pos c87] at H
          have c87b0:((t894.length:Int) == 0)=true:=beq_iff_eq.mpr c87
          have c87b1:((t894.length:Int) != 0)=false:=bne_eq_false_iff_eq.mpr c87
          clear c87
          exact absurd (Option.some.inj H) Bool.false_ne_true
         rw [if_neg c87] at H
         have c87b0:((t894.length:Int) == 0)=false:=beq_eq_false_iff_ne.mpr c87
         have c87b1:((t894.length:Int) != 0)=true:=bne_iff_ne.mpr c87
         have c87b2:¬ (t894=[]):=fun h_=>c87 (by rw [h_];rfl)
         obtain ⟨ji88,hji88⟩:∃ j_:Int,(wrap64 ((t894.length:Int) - 1))=j_:=⟨_,rfl⟩
         replace H:(if 0≤(ji88) then (if (ji88)≤(t894.length:Int) then (if t906=true then (if t905=(l0_0.length:Int) then ((table_Same.f t873 t876 (t894.take ((ji88):Int).toNat) t897).bind fun t910=>(some t910)) else (some false)) else (some false)) else (none)) else (none))=some true:=by first|(rw [hji88] at H;exact H)|(simp only [hji88] at H ⊢;exact H)
         (try rw [hji88] at A86)
         have hji88w:(IntKind.i64.wrap ((t894.length:Int) - 1))=ji88:=(i64_w _).trans hji88
         by_cases c89:0≤(ji88)
         rotate_left
         ·rw [if_neg c89] at H
          exact absurd H J53
         rw [if_pos c89] at H
         have c89b0:=eq_true c89
         have c89b1:decide (0≤(ji88))=true:=decide_eq_true c89
         clear c89
         by_cases c90:(ji88)≤(t894.length:Int)
         rotate_left
         ·rw [if_neg c90] at H
          exact absurd H J53
         rw [if_pos c90] at H
         have c90b0:=eq_true c90
         have c90b1:decide ((ji88)≤(t894.length:Int))=true:=decide_eq_true c90
         clear c90
         obtain ⟨y907,hy907⟩:∃ y_:List (S57),y_=(t894.take ((ji88):Int).toNat):=⟨_,rfl⟩
         replace H:(if t906=true then (if t905=(l0_0.length:Int) then ((table_Same.f t873 t876 y907 t897).bind fun t910=>(some t910)) else (some false)) else (some false))=some true:=by first|(rw [hy907];with_reducible exact H)|(have H2_:=(Option.bind_some _ _).symm.trans H;rw [hy907];with_reducible exact H2_)|(have H2_:=(Option.bind_some _ _).symm.trans H;with_reducible exact H2_)|with_reducible exact H|(rw [hy907];exact H)|exact H
         have Ny907:=Y0 hy907
         clear hy907
         by_cases c91:t906=true
         rotate_left
         ·replace c91:=Bool.eq_false_iff.mpr c91
          subst c91
          rw [if_neg (show ¬ (false=true) by decide)] at H
          exact absurd (Option.some.inj H) Bool.false_ne_true
         subst c91
         rw [if_pos rfl] at H
         by_cases c92:t905=(l0_0.length:Int)
         rotate_left
         ·rw [if_neg c92] at H
          have c92b0:(t905 == (l0_0.length:Int))=false:=beq_eq_false_iff_ne.mpr c92
          have c92b1:(t905 != (l0_0.length:Int))=true:=bne_iff_ne.mpr c92
          exact absurd (Option.some.inj H) Bool.false_ne_true
         rw [if_pos c92] at H
         have c92b0:(t905 == (l0_0.length:Int))=true:=beq_iff_eq.mpr c92
         have c92b1:(t905 != (l0_0.length:Int))=false:=bne_eq_false_iff_eq.mpr c92
         clear c92
         replace H:=Y17.mp H
         obtain ⟨t910,A930,H⟩:=H
         try dsimp only at H
         have A93:=Y0 A930
         clear A930
         have hv_:=Option.some.inj H
         have hnb94:=NB902_870.out
         have hnc94:=NB870_902.out
         have hnb95:=NB902_881.out
         have hnc95:=NB881_902.out
         have hnb96:=NB902_893.out
         have hnc96:=NB893_902.out
         have ⟨hcz97_0,hcz97_1,hfz97_0,hfz97_1⟩:=sq_box2 BK902.out
         go_wp2_with (first|((with_reducible refine gate_callee (f:=23) rfl ?_);refine goesL_ (some 118) rfl rfl Tryz.func23 J0 rfl #[.agg #[.slice Ao46 t894.length co46,.slice Ao51 t897.length co51],.string a1] rfl J1 ?_;(with_reducible refine (table_Root.calls _ _ t894 _ _ t897 a1 t905 true _ ?side1 ?side2 ?side3 ?side4 A86.out).mono ?_);(case side1=>repeat (first|exact (Kd.R_reads' HO_903000.out).2.2|(with_reducible refine Y8 ?_ _)|(with_reducible refine Kd.C_drewN ?_ _)|(with_reducible refine Kd.C_drew ?_)));(case side2=>exact (Kd.R_reads' HO_903000.out).2.1);(case side3=>repeat (first|exact (Kd.R_reads' HO_903001.out).2.2|(with_reducible refine Y8 ?_ _)|(with_reducible refine Kd.C_drewN ?_ _)|(with_reducible refine Kd.C_drew ?_)));(case side4=>exact (Kd.R_reads' HO_903001.out).2.1);rintro e w98 ⟨rfl,hb⟩;refine ⟨_,rfl,?_⟩;have n0_:=Y0 (Kd.R_below J16 hb);have n1_:=Y0 (Kd.R_below J15 hb);have n2_:=Y0 (Kd.R_below J61 hb);have n3_:=Y0 (Kd.R_below J60 hb);have n4_:=Y0 (Kd.R_below J59 hb);have n5_:=Y0 (blk_below (g:=gb870) (o:=.cells #[.slice A0_0 l0_0.length c0_0,.slice A0_1 l0_1.length c0_1] 26 (0,0)) J5 hb);have n6_:=Y0 (blk_below (g:=gb881) (o:=.cells #[.slice Ao14 t873.length co14,.slice Ao17 t876.length co17] 46 (0,0)) J9 hb);have n7_:=Y0 (blk_below (g:=gb893) (o:=.cells #[.slice Ao38 y890.length co38,.slice A0_1 l0_1.length c0_1] 26 (0,0)) J24 hb);have n8_:=Y0 (blk_below (g:=gb902) (o:=.cells #[.slice Ao46 t894.length co46,.slice Ao51 t897.length co51] 46 (0,0)) J62 hb);have n9_:=Y0 (below_step J26 hb);clear HO_882000;clear HO_882001;clear HO_894000;clear HO_903000;clear HO_903001;clear BK870;clear BK881;clear BK893;clear BK902;clear HB;have HO_882000:=n0_;have HO_882001:=n1_;have HO_894000:=n2_;have HO_903000:=n3_;have HO_903001:=n4_;have BK870:=n5_;have BK881:=n6_;have BK893:=n7_;have BK902:=n8_;have HB:=n9_;clear n0_ n1_ n2_ n3_ n4_ n5_ n6_ n7_ n8_ n9_;(try clear hb);(try clear hb2);(try clear hk);(try clear hi);have ⟨hcz99_0,hcz99_1,hfz99_0,hfz99_1⟩:=sq_box2 BK902.out;have q100:((ji88):Int)≤((t894.length:Int):Int):=of_decide_eq_true J3;obtain ⟨i0100,hi0100,_,hsz100,_⟩:=info_parts info57;have hcut100:=cut_to (P:=Tryz.prog) 43 57 .i64 Tryz.underlying43 hi0100 Ao46 t894.length co46 (ji88) (of_decide_eq_true J3) q100 (Kd.R_reads' HO_903000.out).2.1;have hr100:=Kd.R_take (m:=((ji88):Int).toNat) HO_903000.out J7;have hy100:y907.length=((ji88):Int).toNat:=(by rw [Ny907.out,List.length_take];omega);rw [← Ny907.out] at hr100;rw [← hy100] at hr100 hcut100;clear hy100 hi0100 hsz100 HO_903000;have HO909:=Y0 hr100;clear hr100;replace q100:=eq_true q100;have hnb101:=NB870_881.out;have hnc101:=NB881_870.out;have hnb102:=NB870_893.out;have hnc102:=NB893_870.out;have ⟨hcz103_0,hcz103_1,hfz103_0,hfz103_1⟩:=sq_box2 BK870.out;have hnb104:=NB881_893.out;have hnc104:=NB893_881.out;have ⟨hcz105_0,hcz105_1,hfz105_0,hfz105_1⟩:=sq_box2 BK881.out)|(go_at_call 24;(with_reducible refine (table_Same.calls _ _ t873 _ _ t876 _ _ y907 _ _ t897 t910 _ ?side1 ?side2 ?side3 ?side4 ?side5 ?side6 ?side7 ?side8 A93.out).mono ?_);(case side1=>refine (Kd.R_reads' (e:=57) (base:=w.heap.size) (ok:=fun k_=>some k_≠(.slice Ao46 t894.length co46:Value).ownBlock) (n:=t873.length) (c:=co14) ?_).2.2;exact J103);(case side2=>exact (Kd.R_reads' HO_882000.out).2.1);(case side3=>refine (Kd.R_reads' (e:=119) (base:=w.heap.size) (ok:=fun k_=>some k_≠(.slice Ao51 t897.length co51:Value).ownBlock) (n:=t876.length) (c:=co17) ?_).2.2;exact J102);(case side4=>exact (Kd.R_reads' HO_882001.out).2.1);(case side5=>refine (Kd.R_reads' (e:=57) (base:=w.heap.size) (ok:=fun k_=>some k_≠(.slice Ao14 t873.length co14:Value).ownBlock) (n:=y907.length) (c:=co46) ?_).2.2;exact J104);(case side6=>exact (Kd.R_reads' HO909.out).2.1);(case side7=>refine (Kd.R_reads' (e:=119) (base:=w.heap.size) (ok:=fun k_=>some k_≠(.slice Ao17 t876.length co17:Value).ownBlock) (n:=t897.length) (c:=co51) ?_).2.2;exact J101);(case side8=>exact (Kd.R_reads' HO_903001.out).2.1);rintro e w106 ⟨rfl,hb⟩;have n0_:=Y0 (Kd.R_below J103 hb);have n1_:=Y0 (Kd.R_below J102 hb);have n2_:=Y0 (Kd.R_below (by (with_reducible repeat (first|apply Y5|apply Y6|apply Y7));exact (Kd.R_mono (Kd.R_far (p:=⟨gb902,0,none⟩) (Kd.R_types HO_894000.out BK902.out J29) (fun _ hk=>hk.2) (.slice Ao46 y907.length co46)) (fun _ h_=>h_.1))) hb);have n3_:=Y0 (Kd.R_below J104 hb);have n4_:=Y0 (Kd.R_below J101 hb);have n5_:=Y0 (blk_below (g:=gb870) (o:=.cells #[.slice A0_0 l0_0.length c0_0,.slice A0_1 l0_1.length c0_1] 26 (0,0)) (by (with_reducible repeat first|apply Y11|apply Y13|apply Y12);refine blk_far ?_ NB870_902.out _;(with_reducible repeat first|apply Y11|apply Y13|apply Y12);exact BK870.out) hb);have n6_:=Y0 (blk_below (g:=gb881) (o:=.cells #[.slice Ao14 t873.length co14,.slice Ao17 t876.length co17] 46 (0,0)) (by (with_reducible repeat first|apply Y11|apply Y13|apply Y12);refine blk_far ?_ NB881_902.out _;(with_reducible repeat first|apply Y11|apply Y13|apply Y12);exact BK881.out) hb);have n7_:=Y0 (blk_below (g:=gb893) (o:=.cells #[.slice Ao38 y890.length co38,.slice A0_1 l0_1.length c0_1] 26 (0,0)) (by (with_reducible repeat first|apply Y11|apply Y13|apply Y12);refine blk_far ?_ NB893_902.out _;(with_reducible repeat first|apply Y11|apply Y13|apply Y12);exact BK893.out) hb);have n8_:=Y0 (blk_below (g:=gb902) (o:=.cells #[.slice Ao46 y907.length co46,.slice Ao51 t897.length co51] 46 (0,0)) (by (with_reducible repeat first|apply Y11|apply Y13|apply Y12);refine blk_put (cs:=#[.slice Ao46 t894.length co46,.slice Ao51 t897.length co51]) ?_ 0 _ rfl;(with_reducible repeat first|apply Y11|apply Y13|apply Y12);exact BK902.out) hb);have n9_:=Y0 (below_step J26 hb);clear HO_882000;clear HO_882001;clear HO_894000;clear HO909;clear HO_903001;clear BK870;clear BK881;clear BK893;clear BK902;clear HB;have HO_882000:=n0_;have HO_882001:=n1_;have HO_894000:=n2_;have HO909:=n3_;have HO_903001:=n4_;have BK870:=n5_;have BK881:=n6_;have BK893:=n7_;have BK902:=n8_;have HB:=n9_;clear n0_ n1_ n2_ n3_ n4_ n5_ n6_ n7_ n8_ n9_;(try clear hb);(try clear hb2);(try clear hk);(try clear hi)))
         go_ret
         exact ⟨by first|rfl|(rw [hv_];done)|(simp [hv_];done)|(simp [← hv_];done)|(simp [] <;> rfl)|(simp only [← hji88];first|rfl|(simp [] <;> rfl))|(simp [*] <;> rfl),J26⟩
end Go.Proofs.YtddpjjhekhompaaGreatDoor.P
