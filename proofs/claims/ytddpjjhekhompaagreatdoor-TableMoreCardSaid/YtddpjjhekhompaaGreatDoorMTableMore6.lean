/- Part 6 of what the law TableMore leans on: contracts of the functions that it reaches, and plain lemmas. No condition. -/
import Derived.RegionTactic
import Derived.ChangeAlike
import Derived.Shelf.SlSortCmp.NoneTotal
import Derived.Shelf.SlicesG.Cmp
import Derived.Test.YtddpjjhekhompaaGreatDoorMTableMore5
namespace Go.Proofs.YtddpjjhekhompaaGreatDoor.P
open Go.RowKit Go.Proofs.YtddpjjhekhompaaGreatDoorW.PrintWords Go.Proofs.YtddpjjhekhompaaGreatDoorW.PrintLast Go.Proofs.YtddpjjhekhompaaGreatDoorW.PrintMore
attribute [local go_sem] max2_int max_two
set_option linter.unusedVariables false
set_option linter.unusedSimpArgs false
def table_enum.f (a0_0:ByteArray) (l0_1:List ByteArray) (l0_2:List Int):Option (Bool):=(slices_ContainsFunc_int64_int64.f l0_2 106).bind fun t272=>((table_in.f (l0_1.length:Int) 1 30).bind fun t273=>(if t273=true then (if (l0_2.length:Int)=(l0_1.length:Int) then ((table_unique_string.f l0_1).bind fun t274=>(if t274=true then ((table_unique_int64.f l0_2).bind fun t275=>(if t275=true then (if 0 < (l0_2.length:Int) then (if (rd l0_2 0)=0 then (some (!t272)) else (some false)) else (none)) else (some false))) else (some false))) else (some false)) else (some false)))
set_option maxHeartbeats 8000000 in
set_option maxRecDepth 100000 in
theorem table_enum.calls (a0_0:ByteArray) (A0_1:Option Addr) (c0_1:Nat) (l0_1:List ByteArray) (A0_2:Option Addr) (c0_2:Nat) (l0_2:List Int) (r:Bool) (w:World) (hr0_1:Kd.C Kd.string w A0_1 l0_1.length l0_1) (hc0_1:l0_1.length≤c0_1) (hr0_2:Kd.C (Kd.int .i64) w A0_2 l0_2.length l0_2) (hc0_2:l0_2.length≤c0_2) (h:table_enum.f a0_0 l0_1 l0_2=some r) :
  Calls Tryz.prog 62 #[.agg #[.string a0_0,.slice A0_1 l0_1.length c0_1,.slice A0_2 l0_2.length c0_2]] w fun e w'=>e = .returned (.bool r)∧Below w.heap.size w w':=by
 have hu119:=Tryz.underlying119
 have HR0_1:=Y0 hr0_1
 have HC0_1:=Y0 hc0_1
 clear hr0_1 hc0_1
 have HR0_2:=Y0 hr0_2
 have HC0_2:=Y0 hc0_2
 clear hr0_2 hc0_2
 have HB:=Y0 (Below.refl w.heap.size w)
 have H:((slices_ContainsFunc_int64_int64.f l0_2 106).bind fun t272=>((table_in.f (l0_1.length:Int) 1 30).bind fun t273=>(if t273=true then (if (l0_2.length:Int)=(l0_1.length:Int) then ((table_unique_string.f l0_1).bind fun t274=>(if t274=true then ((table_unique_int64.f l0_2).bind fun t275=>(if t275=true then (if 0 < (l0_2.length:Int) then (if (rd l0_2 0)=0 then (some (!t272)) else (some false)) else (none)) else (some false))) else (some false))) else (some false)) else (some false))))=some r:=h
 clear h
 replace H:=Y17.mp H
 obtain ⟨t272,A20,H⟩:=H
 try dsimp only at H
 have A2:=Y0 A20
 clear A20
 replace H:=Y17.mp H
 obtain ⟨t273,A30,H⟩:=H
 try dsimp only at H
 have A3:=Y0 A30
 clear A30
 by_cases c4:t273=true
 rotate_left
 ·replace c4:=Bool.eq_false_iff.mpr c4
  subst c4
  rw [if_neg (show ¬ (false=true) by decide)] at H
  obtain rfl:=Option.some.inj H
  go_enter Tryz.func62,Tryz.ntmps62
  go_wp2_with (first|((with_reducible refine gate_dst (N:=1) rfl ?_);(try (refine gate_guard J19 ?_;dsimp only));refine box_event ?hg (N:=1) ?hd (cs:=#[.string a0_0,.slice A0_1 l0_1.length c0_1,.slice A0_2 l0_2.length c0_2]) (t:=119) ?hr ?_;(case hd=>rfl);(case hg=>rfl);(case hr=>first|(go_simp;done)|(go_simp;rfl));intro gb271 hg w44 hbox hb;have n0_:=Y0 (below_step J4 hb);have n1_:=Y0 (hbox);have n2_:=Y0 ((by rw [hg];exact (below_size J4):w.heap.size≤gb271));have n3_:=Y0 ((by rw [hg];exact (below_size J4):w.heap.size≤gb271));clear HB;have HB:=n0_;have BK271:=n1_;have GW271:=n2_;have GE271:=n3_;clear n0_ n1_ n2_ n3_;clear hb hbox hg;have ⟨hcz45_0,hcz45_1,hcz45_2,hfz45_0,hfz45_1,hfz45_2⟩:=sq_box3 BK271.out)|((with_reducible refine gate_callee (f:=105) rfl ?_);refine goesL_ (some 6) rfl rfl Tryz.func105 J0 rfl #[.slice A0_2 l0_2.length c0_2,.func (.func 106) #[] #[]] rfl J1 ?_;(with_reducible refine (slices_ContainsFunc_int64_int64.calls _ _ l0_2 106 t272 _ ?side1 ?side2 A2.out).mono ?_);(case side1=>repeat (first|exact (Kd.C_below HR0_2.out HB.out)|(with_reducible refine Y8 ?_ _)|(with_reducible refine Kd.C_drewN ?_ _)|(with_reducible refine Kd.C_drew ?_)));(case side2=>exact HC0_2.out);rintro e w46 ⟨rfl,hb⟩;refine ⟨_,rfl,?_⟩;have n0_:=Y0 (blk_below (g:=gb271) (o:=.cells #[.string a0_0,.slice A0_1 l0_1.length c0_1,.slice A0_2 l0_2.length c0_2] 119 (0,0)) J46 hb);have n1_:=Y0 (below_step J23 hb);clear BK271;clear HB;have BK271:=n0_;have HB:=n1_;clear n0_ n1_;(try clear hb);(try clear hb2);(try clear hk);(try clear hi);have ⟨hcz47_0,hcz47_1,hcz47_2,hfz47_0,hfz47_1,hfz47_2⟩:=sq_box3 BK271.out)|((with_reducible refine gate_callee (f:=60) rfl ?_);refine goesL_ (some 10) rfl rfl Tryz.func60 J0 rfl #[.int .i64 (l0_1.length:Int),.int .i64 1,.int .i64 30] rfl J1 ?_;(with_reducible refine (table_in.calls (l0_1.length:Int) 1 30 false _ A3.out).mono ?_);rintro e w' ⟨rfl,⟨nd,rfl⟩⟩;refine ⟨_,rfl,?_⟩))
  go_ret
  exact ⟨J21,J23⟩
 subst c4
 rw [if_pos rfl] at H
 by_cases c5:(l0_2.length:Int)=(l0_1.length:Int)
 rotate_left
 ·rw [if_neg c5] at H
  have c5b0:((l0_2.length:Int) == (l0_1.length:Int))=false:=beq_eq_false_iff_ne.mpr c5
  have c5b1:((l0_2.length:Int) != (l0_1.length:Int))=true:=bne_iff_ne.mpr c5
  have c5b2:(l0_2.length == l0_1.length)=false:=by first|simpa using c5|(simp at c5 ⊢;omega)
  obtain rfl:=Option.some.inj H
  go_enter Tryz.func62,Tryz.ntmps62
  go_wp2_with (first|((with_reducible refine gate_dst (N:=1) rfl ?_);(try (refine gate_guard J19 ?_;dsimp only));refine box_event ?hg (N:=1) ?hd (cs:=#[.string a0_0,.slice A0_1 l0_1.length c0_1,.slice A0_2 l0_2.length c0_2]) (t:=119) ?hr ?_;(case hd=>rfl);(case hg=>rfl);(case hr=>first|(go_simp;done)|(go_simp;rfl));intro gb271 hg w40 hbox hb;have n0_:=Y0 (below_step J4 hb);have n1_:=Y0 (hbox);have n2_:=Y0 ((by rw [hg];exact (below_size J4):w.heap.size≤gb271));have n3_:=Y0 ((by rw [hg];exact (below_size J4):w.heap.size≤gb271));clear HB;have HB:=n0_;have BK271:=n1_;have GW271:=n2_;have GE271:=n3_;clear n0_ n1_ n2_ n3_;clear hb hbox hg;have ⟨hcz41_0,hcz41_1,hcz41_2,hfz41_0,hfz41_1,hfz41_2⟩:=sq_box3 BK271.out)|((with_reducible refine gate_callee (f:=105) rfl ?_);refine goesL_ (some 6) rfl rfl Tryz.func105 J0 rfl #[.slice A0_2 l0_2.length c0_2,.func (.func 106) #[] #[]] rfl J1 ?_;(with_reducible refine (slices_ContainsFunc_int64_int64.calls _ _ l0_2 106 t272 _ ?side1 ?side2 A2.out).mono ?_);(case side1=>repeat (first|exact (Kd.C_below HR0_2.out HB.out)|(with_reducible refine Y8 ?_ _)|(with_reducible refine Kd.C_drewN ?_ _)|(with_reducible refine Kd.C_drew ?_)));(case side2=>exact HC0_2.out);rintro e w42 ⟨rfl,hb⟩;refine ⟨_,rfl,?_⟩;have n0_:=Y0 (blk_below (g:=gb271) (o:=.cells #[.string a0_0,.slice A0_1 l0_1.length c0_1,.slice A0_2 l0_2.length c0_2] 119 (0,0)) J46 hb);have n1_:=Y0 (below_step J23 hb);clear BK271;clear HB;have BK271:=n0_;have HB:=n1_;clear n0_ n1_;(try clear hb);(try clear hb2);(try clear hk);(try clear hi);have ⟨hcz43_0,hcz43_1,hcz43_2,hfz43_0,hfz43_1,hfz43_2⟩:=sq_box3 BK271.out)|((with_reducible refine gate_callee (f:=60) rfl ?_);refine goesL_ (some 10) rfl rfl Tryz.func60 J0 rfl #[.int .i64 (l0_1.length:Int),.int .i64 1,.int .i64 30] rfl J1 ?_;(with_reducible refine (table_in.calls (l0_1.length:Int) 1 30 true _ A3.out).mono ?_);rintro e w' ⟨rfl,⟨nd,rfl⟩⟩;refine ⟨_,rfl,?_⟩))
  go_ret
  exact ⟨J21,J23⟩
 rw [if_pos c5] at H
 have c5b0:((l0_2.length:Int) == (l0_1.length:Int))=true:=beq_iff_eq.mpr c5
 have c5b1:((l0_2.length:Int) != (l0_1.length:Int))=false:=bne_eq_false_iff_eq.mpr c5
 have c5b2:(l0_2.length == l0_1.length)=true:=by first|simpa using c5|(simp at c5 ⊢;omega)
 clear c5
 replace H:=Y17.mp H
 obtain ⟨t274,A60,H⟩:=H
 try dsimp only at H
 have A6:=Y0 A60
 clear A60
 by_cases c7:t274=true
 rotate_left
 ·replace c7:=Bool.eq_false_iff.mpr c7
  subst c7
  rw [if_neg (show ¬ (false=true) by decide)] at H
  obtain rfl:=Option.some.inj H
  go_enter Tryz.func62,Tryz.ntmps62
  go_wp2_with (first|((with_reducible refine gate_dst (N:=1) rfl ?_);(try (refine gate_guard J19 ?_;dsimp only));refine box_event ?hg (N:=1) ?hd (cs:=#[.string a0_0,.slice A0_1 l0_1.length c0_1,.slice A0_2 l0_2.length c0_2]) (t:=119) ?hr ?_;(case hd=>rfl);(case hg=>rfl);(case hr=>first|(go_simp;done)|(go_simp;rfl));intro gb271 hg w35 hbox hb;have n0_:=Y0 (below_step J4 hb);have n1_:=Y0 (hbox);have n2_:=Y0 ((by rw [hg];exact (below_size J4):w.heap.size≤gb271));have n3_:=Y0 ((by rw [hg];exact (below_size J4):w.heap.size≤gb271));clear HB;have HB:=n0_;have BK271:=n1_;have GW271:=n2_;have GE271:=n3_;clear n0_ n1_ n2_ n3_;clear hb hbox hg;have ⟨hcz36_0,hcz36_1,hcz36_2,hfz36_0,hfz36_1,hfz36_2⟩:=sq_box3 BK271.out)|((with_reducible refine gate_callee (f:=105) rfl ?_);refine goesL_ (some 6) rfl rfl Tryz.func105 J0 rfl #[.slice A0_2 l0_2.length c0_2,.func (.func 106) #[] #[]] rfl J1 ?_;(with_reducible refine (slices_ContainsFunc_int64_int64.calls _ _ l0_2 106 t272 _ ?side1 ?side2 A2.out).mono ?_);(case side1=>repeat (first|exact (Kd.C_below HR0_2.out HB.out)|(with_reducible refine Y8 ?_ _)|(with_reducible refine Kd.C_drewN ?_ _)|(with_reducible refine Kd.C_drew ?_)));(case side2=>exact HC0_2.out);rintro e w37 ⟨rfl,hb⟩;refine ⟨_,rfl,?_⟩;have n0_:=Y0 (blk_below (g:=gb271) (o:=.cells #[.string a0_0,.slice A0_1 l0_1.length c0_1,.slice A0_2 l0_2.length c0_2] 119 (0,0)) J46 hb);have n1_:=Y0 (below_step J23 hb);clear BK271;clear HB;have BK271:=n0_;have HB:=n1_;clear n0_ n1_;(try clear hb);(try clear hb2);(try clear hk);(try clear hi);have ⟨hcz38_0,hcz38_1,hcz38_2,hfz38_0,hfz38_1,hfz38_2⟩:=sq_box3 BK271.out)|((with_reducible refine gate_callee (f:=60) rfl ?_);refine goesL_ (some 10) rfl rfl Tryz.func60 J0 rfl #[.int .i64 (l0_1.length:Int),.int .i64 1,.int .i64 30] rfl J1 ?_;(with_reducible refine (table_in.calls (l0_1.length:Int) 1 30 true _ A3.out).mono ?_);rintro e w' ⟨rfl,⟨nd,rfl⟩⟩;refine ⟨_,rfl,?_⟩)|(go_at_call 63;(with_reducible refine (table_unique_string.calls _ _ l0_1 false _ ?side1 ?side2 A6.out).mono ?_);(case side1=>repeat (first|exact (Kd.C_below HR0_1.out J23)|(with_reducible refine Y8 ?_ _)|(with_reducible refine Kd.C_drewN ?_ _)|(with_reducible refine Kd.C_drew ?_)));(case side2=>exact HC0_1.out);rintro e w39 ⟨rfl,hb⟩;have n0_:=Y0 (blk_below (g:=gb271) (o:=.cells #[.string a0_0,.slice A0_1 l0_1.length c0_1,.slice A0_2 l0_2.length c0_2] 119 (0,0)) J46 hb);have n1_:=Y0 (below_step J23 hb);clear BK271;clear HB;have BK271:=n0_;have HB:=n1_;clear n0_ n1_;(try clear hb);(try clear hb2);(try clear hk);(try clear hi)))
  go_ret
  exact ⟨J21,J23⟩
 subst c7
 rw [if_pos rfl] at H
 replace H:=Y17.mp H
 obtain ⟨t275,A80,H⟩:=H
 try dsimp only at H
 have A8:=Y0 A80
 clear A80
 by_cases c9:t275=true
 rotate_left
 ·replace c9:=Bool.eq_false_iff.mpr c9
  subst c9
  rw [if_neg (show ¬ (false=true) by decide)] at H
  obtain rfl:=Option.some.inj H
  go_enter Tryz.func62,Tryz.ntmps62
  go_wp2_with (first|((with_reducible refine gate_dst (N:=1) rfl ?_);(try (refine gate_guard J19 ?_;dsimp only));refine box_event ?hg (N:=1) ?hd (cs:=#[.string a0_0,.slice A0_1 l0_1.length c0_1,.slice A0_2 l0_2.length c0_2]) (t:=119) ?hr ?_;(case hd=>rfl);(case hg=>rfl);(case hr=>first|(go_simp;done)|(go_simp;rfl));intro gb271 hg w28 hbox hb;have n0_:=Y0 (below_step J4 hb);have n1_:=Y0 (hbox);have n2_:=Y0 ((by rw [hg];exact (below_size J4):w.heap.size≤gb271));have n3_:=Y0 ((by rw [hg];exact (below_size J4):w.heap.size≤gb271));clear HB;have HB:=n0_;have BK271:=n1_;have GW271:=n2_;have GE271:=n3_;clear n0_ n1_ n2_ n3_;clear hb hbox hg;have ⟨hcz29_0,hcz29_1,hcz29_2,hfz29_0,hfz29_1,hfz29_2⟩:=sq_box3 BK271.out)|((with_reducible refine gate_callee (f:=105) rfl ?_);refine goesL_ (some 6) rfl rfl Tryz.func105 J0 rfl #[.slice A0_2 l0_2.length c0_2,.func (.func 106) #[] #[]] rfl J1 ?_;(with_reducible refine (slices_ContainsFunc_int64_int64.calls _ _ l0_2 106 t272 _ ?side1 ?side2 A2.out).mono ?_);(case side1=>repeat (first|exact (Kd.C_below HR0_2.out HB.out)|(with_reducible refine Y8 ?_ _)|(with_reducible refine Kd.C_drewN ?_ _)|(with_reducible refine Kd.C_drew ?_)));(case side2=>exact HC0_2.out);rintro e w30 ⟨rfl,hb⟩;refine ⟨_,rfl,?_⟩;have n0_:=Y0 (blk_below (g:=gb271) (o:=.cells #[.string a0_0,.slice A0_1 l0_1.length c0_1,.slice A0_2 l0_2.length c0_2] 119 (0,0)) J46 hb);have n1_:=Y0 (below_step J23 hb);clear BK271;clear HB;have BK271:=n0_;have HB:=n1_;clear n0_ n1_;(try clear hb);(try clear hb2);(try clear hk);(try clear hi);have ⟨hcz31_0,hcz31_1,hcz31_2,hfz31_0,hfz31_1,hfz31_2⟩:=sq_box3 BK271.out)|((with_reducible refine gate_callee (f:=60) rfl ?_);refine goesL_ (some 10) rfl rfl Tryz.func60 J0 rfl #[.int .i64 (l0_1.length:Int),.int .i64 1,.int .i64 30] rfl J1 ?_;(with_reducible refine (table_in.calls (l0_1.length:Int) 1 30 true _ A3.out).mono ?_);rintro e w' ⟨rfl,⟨nd,rfl⟩⟩;refine ⟨_,rfl,?_⟩)|(go_at_call 63;(with_reducible refine (table_unique_string.calls _ _ l0_1 true _ ?side1 ?side2 A6.out).mono ?_);(case side1=>repeat (first|exact (Kd.C_below HR0_1.out J23)|(with_reducible refine Y8 ?_ _)|(with_reducible refine Kd.C_drewN ?_ _)|(with_reducible refine Kd.C_drew ?_)));(case side2=>exact HC0_1.out);rintro e w32 ⟨rfl,hb⟩;have n0_:=Y0 (blk_below (g:=gb271) (o:=.cells #[.string a0_0,.slice A0_1 l0_1.length c0_1,.slice A0_2 l0_2.length c0_2] 119 (0,0)) J46 hb);have n1_:=Y0 (below_step J23 hb);clear BK271;clear HB;have BK271:=n0_;have HB:=n1_;clear n0_ n1_;(try clear hb);(try clear hb2);(try clear hk);(try clear hi);have ⟨hcz33_0,hcz33_1,hcz33_2,hfz33_0,hfz33_1,hfz33_2⟩:=sq_box3 BK271.out)|(go_at_call 107;(with_reducible refine (table_unique_int64.calls _ _ l0_2 false _ ?side1 ?side2 A8.out).mono ?_);(case side1=>repeat (first|exact (Kd.C_below HR0_2.out HB.out)|(with_reducible refine Y8 ?_ _)|(with_reducible refine Kd.C_drewN ?_ _)|(with_reducible refine Kd.C_drew ?_)));(case side2=>exact HC0_2.out);rintro e w34 ⟨rfl,hb⟩;have n0_:=Y0 (blk_below (g:=gb271) (o:=.cells #[.string a0_0,.slice A0_1 l0_1.length c0_1,.slice A0_2 l0_2.length c0_2] 119 (0,0)) J46 hb);have n1_:=Y0 (below_step J23 hb);clear BK271;clear HB;have BK271:=n0_;have HB:=n1_;clear n0_ n1_;(try clear hb);(try clear hb2);(try clear hk);(try clear hi)))
  go_ret
  exact ⟨J21,J23⟩
 subst c9
 rw [if_pos rfl] at H
 by_cases c10:0 < (l0_2.length:Int)
 rotate_left
 ·rw [if_neg c10] at H
  exact absurd H J53
 rw [if_pos c10] at H
 have c10b0:decide (0 < (l0_2.length:Int))=true:=decide_eq_true c10
 have c10b1:decide (0 < l0_2.length)=true:=decide_eq_true J7
 clear c10
 by_cases c11:(rd l0_2 0)=0
 rotate_left
 ·rw [if_neg c11] at H
  have c11b0:((rd l0_2 0) == 0)=false:=beq_eq_false_iff_ne.mpr c11
  have c11b1:((rd l0_2 0) != 0)=true:=bne_iff_ne.mpr c11
  obtain rfl:=Option.some.inj H
  go_enter Tryz.func62,Tryz.ntmps62
  go_wp2_with (first|((with_reducible refine gate_dst (N:=1) rfl ?_);(try (refine gate_guard J19 ?_;dsimp only));refine box_event ?hg (N:=1) ?hd (cs:=#[.string a0_0,.slice A0_1 l0_1.length c0_1,.slice A0_2 l0_2.length c0_2]) (t:=119) ?hr ?_;(case hd=>rfl);(case hg=>rfl);(case hr=>first|(go_simp;done)|(go_simp;rfl));intro gb271 hg w20 hbox hb;have n0_:=Y0 (below_step J4 hb);have n1_:=Y0 (hbox);have n2_:=Y0 ((by rw [hg];exact (below_size J4):w.heap.size≤gb271));have n3_:=Y0 ((by rw [hg];exact (below_size J4):w.heap.size≤gb271));clear HB;have HB:=n0_;have BK271:=n1_;have GW271:=n2_;have GE271:=n3_;clear n0_ n1_ n2_ n3_;clear hb hbox hg;have ⟨hcz21_0,hcz21_1,hcz21_2,hfz21_0,hfz21_1,hfz21_2⟩:=sq_box3 BK271.out)|((with_reducible refine gate_callee (f:=105) rfl ?_);refine goesL_ (some 6) rfl rfl Tryz.func105 J0 rfl #[.slice A0_2 l0_2.length c0_2,.func (.func 106) #[] #[]] rfl J1 ?_;(with_reducible refine (slices_ContainsFunc_int64_int64.calls _ _ l0_2 106 t272 _ ?side1 ?side2 A2.out).mono ?_);(case side1=>repeat (first|exact (Kd.C_below HR0_2.out HB.out)|(with_reducible refine Y8 ?_ _)|(with_reducible refine Kd.C_drewN ?_ _)|(with_reducible refine Kd.C_drew ?_)));(case side2=>exact HC0_2.out);rintro e w22 ⟨rfl,hb⟩;refine ⟨_,rfl,?_⟩;have n0_:=Y0 (blk_below (g:=gb271) (o:=.cells #[.string a0_0,.slice A0_1 l0_1.length c0_1,.slice A0_2 l0_2.length c0_2] 119 (0,0)) J46 hb);have n1_:=Y0 (below_step J23 hb);clear BK271;clear HB;have BK271:=n0_;have HB:=n1_;clear n0_ n1_;(try clear hb);(try clear hb2);(try clear hk);(try clear hi);have ⟨hcz23_0,hcz23_1,hcz23_2,hfz23_0,hfz23_1,hfz23_2⟩:=sq_box3 BK271.out)|((with_reducible refine gate_callee (f:=60) rfl ?_);refine goesL_ (some 10) rfl rfl Tryz.func60 J0 rfl #[.int .i64 (l0_1.length:Int),.int .i64 1,.int .i64 30] rfl J1 ?_;(with_reducible refine (table_in.calls (l0_1.length:Int) 1 30 true _ A3.out).mono ?_);rintro e w' ⟨rfl,⟨nd,rfl⟩⟩;refine ⟨_,rfl,?_⟩)|(go_at_call 63;(with_reducible refine (table_unique_string.calls _ _ l0_1 true _ ?side1 ?side2 A6.out).mono ?_);(case side1=>repeat (first|exact (Kd.C_below HR0_1.out J23)|(with_reducible refine Y8 ?_ _)|(with_reducible refine Kd.C_drewN ?_ _)|(with_reducible refine Kd.C_drew ?_)));(case side2=>exact HC0_1.out);rintro e w24 ⟨rfl,hb⟩;have n0_:=Y0 (blk_below (g:=gb271) (o:=.cells #[.string a0_0,.slice A0_1 l0_1.length c0_1,.slice A0_2 l0_2.length c0_2] 119 (0,0)) J46 hb);have n1_:=Y0 (below_step J23 hb);clear BK271;clear HB;have BK271:=n0_;have HB:=n1_;clear n0_ n1_;(try clear hb);(try clear hb2);(try clear hk);(try clear hi);have ⟨hcz25_0,hcz25_1,hcz25_2,hfz25_0,hfz25_1,hfz25_2⟩:=sq_box3 BK271.out)|(go_at_call 107;(with_reducible refine (table_unique_int64.calls _ _ l0_2 true _ ?side1 ?side2 A8.out).mono ?_);(case side1=>repeat (first|exact (Kd.C_below HR0_2.out HB.out)|(with_reducible refine Y8 ?_ _)|(with_reducible refine Kd.C_drewN ?_ _)|(with_reducible refine Kd.C_drew ?_)));(case side2=>exact HC0_2.out);rintro e w26 ⟨rfl,hb⟩;have n0_:=Y0 (blk_below (g:=gb271) (o:=.cells #[.string a0_0,.slice A0_1 l0_1.length c0_1,.slice A0_2 l0_2.length c0_2] 119 (0,0)) J46 hb);have n1_:=Y0 (below_step J23 hb);clear BK271;clear HB;have BK271:=n0_;have HB:=n1_;clear n0_ n1_;(try clear hb);(try clear hb2);(try clear hk);(try clear hi);have ⟨hcz27_0,hcz27_1,hcz27_2,hfz27_0,hfz27_1,hfz27_2⟩:=sq_box3 BK271.out;have p276:0≤(0:Int):=J7;have q276:0 < (l0_2.length:Int):=of_decide_eq_true J3;obtain ⟨ad276,e276,hx276_0⟩:=Kd.at_int HR0_2.out 0 p276 q276;cases e276;have qi276:(0 < l0_2.length)=True:=eq_true J7;(try rw [show ((0:Int)).toNat=0 from rfl] at hx276_0);(try rw [Addr.add_zero'] at hx276_0);replace hx276_0:=(HB.out.cell (World.block_lt_of_cell? w _ hx276_0)).trans hx276_0;replace p276:=eq_true p276;replace q276:=eq_true q276))
  go_ret
  exact ⟨J21,J23⟩
 rw [if_pos c11] at H
 have c11b0:((rd l0_2 0) == 0)=true:=beq_iff_eq.mpr c11
 have c11b1:((rd l0_2 0) != 0)=false:=bne_eq_false_iff_eq.mpr c11
 clear c11
 obtain rfl:=Option.some.inj H
 go_enter Tryz.func62,Tryz.ntmps62
 go_wp2_with (first|((with_reducible refine gate_dst (N:=1) rfl ?_);(try (refine gate_guard J19 ?_;dsimp only));refine box_event ?hg (N:=1) ?hd (cs:=#[.string a0_0,.slice A0_1 l0_1.length c0_1,.slice A0_2 l0_2.length c0_2]) (t:=119) ?hr ?_;(case hd=>rfl);(case hg=>rfl);(case hr=>first|(go_simp;done)|(go_simp;rfl));intro gb271 hg w12 hbox hb;have n0_:=Y0 (below_step J4 hb);have n1_:=Y0 (hbox);have n2_:=Y0 ((by rw [hg];exact (below_size J4):w.heap.size≤gb271));have n3_:=Y0 ((by rw [hg];exact (below_size J4):w.heap.size≤gb271));clear HB;have HB:=n0_;have BK271:=n1_;have GW271:=n2_;have GE271:=n3_;clear n0_ n1_ n2_ n3_;clear hb hbox hg;have ⟨hcz13_0,hcz13_1,hcz13_2,hfz13_0,hfz13_1,hfz13_2⟩:=sq_box3 BK271.out)|((with_reducible refine gate_callee (f:=105) rfl ?_);refine goesL_ (some 6) rfl rfl Tryz.func105 J0 rfl #[.slice A0_2 l0_2.length c0_2,.func (.func 106) #[] #[]] rfl J1 ?_;(with_reducible refine (slices_ContainsFunc_int64_int64.calls _ _ l0_2 106 t272 _ ?side1 ?side2 A2.out).mono ?_);(case side1=>repeat (first|exact (Kd.C_below HR0_2.out HB.out)|(with_reducible refine Y8 ?_ _)|(with_reducible refine Kd.C_drewN ?_ _)|(with_reducible refine Kd.C_drew ?_)));(case side2=>exact HC0_2.out);rintro e w14 ⟨rfl,hb⟩;refine ⟨_,rfl,?_⟩;have n0_:=Y0 (blk_below (g:=gb271) (o:=.cells #[.string a0_0,.slice A0_1 l0_1.length c0_1,.slice A0_2 l0_2.length c0_2] 119 (0,0)) J46 hb);have n1_:=Y0 (below_step J23 hb);clear BK271;clear HB;have BK271:=n0_;have HB:=n1_;clear n0_ n1_;(try clear hb);(try clear hb2);(try clear hk);(try clear hi);have ⟨hcz15_0,hcz15_1,hcz15_2,hfz15_0,hfz15_1,hfz15_2⟩:=sq_box3 BK271.out)|((with_reducible refine gate_callee (f:=60) rfl ?_);refine goesL_ (some 10) rfl rfl Tryz.func60 J0 rfl #[.int .i64 (l0_1.length:Int),.int .i64 1,.int .i64 30] rfl J1 ?_;(with_reducible refine (table_in.calls (l0_1.length:Int) 1 30 true _ A3.out).mono ?_);rintro e w' ⟨rfl,⟨nd,rfl⟩⟩;refine ⟨_,rfl,?_⟩)|(go_at_call 63;(with_reducible refine (table_unique_string.calls _ _ l0_1 true _ ?side1 ?side2 A6.out).mono ?_);(case side1=>repeat (first|exact (Kd.C_below HR0_1.out J23)|(with_reducible refine Y8 ?_ _)|(with_reducible refine Kd.C_drewN ?_ _)|(with_reducible refine Kd.C_drew ?_)));(case side2=>exact HC0_1.out);rintro e w16 ⟨rfl,hb⟩;have n0_:=Y0 (blk_below (g:=gb271) (o:=.cells #[.string a0_0,.slice A0_1 l0_1.length c0_1,.slice A0_2 l0_2.length c0_2] 119 (0,0)) J46 hb);have n1_:=Y0 (below_step J23 hb);clear BK271;clear HB;have BK271:=n0_;have HB:=n1_;clear n0_ n1_;(try clear hb);(try clear hb2);(try clear hk);(try clear hi);have ⟨hcz17_0,hcz17_1,hcz17_2,hfz17_0,hfz17_1,hfz17_2⟩:=sq_box3 BK271.out)|(go_at_call 107;(with_reducible refine (table_unique_int64.calls _ _ l0_2 true _ ?side1 ?side2 A8.out).mono ?_);(case side1=>repeat (first|exact (Kd.C_below HR0_2.out HB.out)|(with_reducible refine Y8 ?_ _)|(with_reducible refine Kd.C_drewN ?_ _)|(with_reducible refine Kd.C_drew ?_)));(case side2=>exact HC0_2.out);rintro e w18 ⟨rfl,hb⟩;have n0_:=Y0 (blk_below (g:=gb271) (o:=.cells #[.string a0_0,.slice A0_1 l0_1.length c0_1,.slice A0_2 l0_2.length c0_2] 119 (0,0)) J46 hb);have n1_:=Y0 (below_step J23 hb);clear BK271;clear HB;have BK271:=n0_;have HB:=n1_;clear n0_ n1_;(try clear hb);(try clear hb2);(try clear hk);(try clear hi);have ⟨hcz19_0,hcz19_1,hcz19_2,hfz19_0,hfz19_1,hfz19_2⟩:=sq_box3 BK271.out;have p276:0≤(0:Int):=J7;have q276:0 < (l0_2.length:Int):=of_decide_eq_true J3;obtain ⟨ad276,e276,hx276_0⟩:=Kd.at_int HR0_2.out 0 p276 q276;cases e276;have qi276:(0 < l0_2.length)=True:=eq_true J7;(try rw [show ((0:Int)).toNat=0 from rfl] at hx276_0);(try rw [Addr.add_zero'] at hx276_0);replace hx276_0:=(HB.out.cell (World.block_lt_of_cell? w _ hx276_0)).trans hx276_0;replace p276:=eq_true p276;replace q276:=eq_true q276))
 go_ret
 exact ⟨J21,J23⟩
def tmNum (n:Int):Bool:=decide (1≤n∧n≤536870911∧(n < 19000∨n > 19999))
def tmKey (k:Int):Bool:=decide (0≤k∧k < 9∧k≠6∧k≠8)
theorem tm_num (n:Int):table_number.f n=some (tmNum n):=by
 unfold table_number.f tmNum
 repeat' split
 all_goals first|exact congrArg some (decide_eq_true J7).symm|exact congrArg some (decide_eq_false J7).symm|exact congrArg some (decide_eq_decide.2 J7)
theorem tm_key (k:Int):table_keyed.f k=some (tmKey k):=by
 unfold table_keyed.f tmKey
 repeat' split
 all_goals first|exact congrArg some (decide_eq_true J7).symm|exact congrArg some (decide_eq_false J7).symm|skip
 rename_i h1 h2 h3
 by_cases h8:k=8
 ·subst h8;rfl
 ·rw [decide_eq_true J7,bne_iff_ne.2 h8]
theorem tm_in (n a b:Int):table_in.f n a b=some (decide (a≤n∧n≤b)):=by
 unfold table_in.f
 split
 ·exact congrArg some (decide_eq_decide.2 J7)
 ·exact congrArg some (decide_eq_false J7).symm
def tmRef (nM nE:Nat) (f:S51):Bool:=if f.f2=9 then decide (0≤f.f3∧f.f3≤(nM:Int) - 1) else if f.f2=6 then decide (0≤f.f3∧f.f3≤(nE:Int) - 1) else f.f3 == 0
def tmField (nM nE:Nat) (f:S51):Bool :=
 tmNum f.f0 && (decide (0≤f.f2∧f.f2≤9) && (tmRef nM nE f && ((f.f5 == -1 || (tmKey f.f5 && !f.f4)) && (decide (0≤f.f6∧f.f6≤30) && (f.f6 == 0 || !(f.f4 || f.f5 != -1))))))
theorem tm_j1 (k:Nat) (x5 x6:Bool) (a0:Int) (a1:ByteArray) (a2 a3:Int) (a4:Bool) (a5 a6:Int):table_field.j1 (k + 1) x5 x6 a0 a1 a2 a3 a4 a5 a6=some (tmNum a0 && (decide (0≤a2∧a2≤9) && (x5 && ((a5 == -1 || (tmKey a5 && !a4)) && (decide (0≤a6∧a6≤30) && (a6 == 0 || !x6)))))):=by
 simp only [table_field.j1,tm_num,tm_key,tm_in,Option.bind_some]
 by_cases h5:a5 = -1
 ·rw [if_pos h5]
  have:(a5 == -1)=true:=beq_iff_eq.2 h5
  rw [this]
  cases tmNum a0 <;> cases decide (0≤a2∧a2≤9) <;> cases x5 <;> cases decide (0≤a6∧a6≤30) <;> simp
  by_cases h6:a6=0 <;> simp [h6]
 ·rw [if_neg h5]
  have:(a5 == -1)=false:=by simpa using h5
  rw [this]
  cases tmKey a5 <;> cases tmNum a0 <;> cases decide (0≤a2∧a2≤9) <;> cases x5 <;> cases a4 <;> cases decide (0≤a6∧a6≤30) <;> simp
  by_cases h6:a6=0 <;> simp [h6]
theorem tm_field (k:Nat) (l0:List (S57)) (l1:List (S119)) (f:S51) (h0:l0.length≤9223372036854775807) (h1:l1.length≤9223372036854775807):table_field.f (k + 2) l0 l1 f.f0 f.f1 f.f2 f.f3 f.f4 f.f5 f.f6=some (tmField l0.length l1.length f):=by
 have w0:wrap64 ((l0.length:Int) - 1)=(l0.length:Int) - 1:=by unfold wrap64;omega
 have w1:wrap64 ((l1.length:Int) - 1)=(l1.length:Int) - 1:=by unfold wrap64;omega
 have hj:∀ x5,table_field.j0 (k + 2) x5 f.f0 f.f1 f.f2 f.f3 f.f4 f.f5 f.f6=some (tmNum f.f0 && (decide (0≤f.f2∧f.f2≤9) && (x5 && ((f.f5 == -1 || (tmKey f.f5 && !f.f4)) && (decide (0≤f.f6∧f.f6≤30) && (f.f6 == 0 || !(f.f4 || f.f5 != -1))))))):=by
  intro x5
  simp only [table_field.j0,tm_j1]
  cases f.f4 <;> simp
 unfold table_field.f tmField tmRef
 rw [w0,w1]
 simp only [tm_in,Option.bind_some,hj]
 by_cases h9:f.f2=9
 ·rw [if_pos h9,if_pos h9]
 ·rw [if_neg h9,if_neg h9]
  by_cases h6:f.f2=6
  ·rw [if_pos h6,if_pos h6]
  ·rw [if_neg h6,if_neg h6]
def tmFields (nM nE:Nat):Int→List (S51)→Bool
 | _,[]=>true
 | last,f :: t=>tmField nM nE f && (decide (last < f.f0) && tmFields nM nE f.f0 t)
def tmMsg (nM nE:Nat) (x:S57):Bool:=tmFields nM nE 0 x.f1 && (decide (x.f1.length≤30) && uniqB (x.f1.map (fun f=>bl f.f1)))
theorem tm_loop (l0:List (S57)) (l1:List (S119)) (a:ByteArray) (l:List (S51)) (h0:l0.length≤9223372036854775807) (h1:l1.length≤9223372036854775807) (hl:l.length < 8796093022208) (hs:∀ x ∈ l,x.f1.size≤maxLen) :
  ∀ (n i:Nat) (X:List ByteArray) (last:Int) (k:Nat),i + n=l.length→X=(l.take i).map (·.f1)→n + 4≤k→table_message.l0 k X last l (l.length:Int) (i:Int) l0 l1 a l=some (tmFields l0.length l1.length last (l.drop i) && (decide (l.length≤30) && uniqB (l.map (fun f=>bl f.f1)))):=by
 intro n
 induction n with
 | zero =>
  intro i X last k hi hX hk
  obtain ⟨j,rfl⟩:∃ j,k=j + 1:=⟨k - 1,J7⟩
  have hil:i=l.length:=by omega
  subst hil
  rw [List.take_length] at hX
  subst hX
  simp only [table_message.l0]
  rw [if_neg J7,List.drop_length]
  have hu:table_unique_string.f (l.map (·.f1))=some (uniqB (l.map (fun f=>bl f.f1))):=by
   unfold table_unique_string.f
   rw [if_pos (fun s hm=>by obtain ⟨x,hx,rfl⟩:=List.mem_map.1 hm;exact hs x hx),List.map_map]
   rfl
  rw [hu]
  by_cases h30:l.length≤30
  ·rw [if_pos J7,decide_eq_true h30];rfl
  ·rw [if_neg J7,decide_eq_false h30];rfl
 | succ n ih =>
  intro i X last k hi hX hk
  obtain ⟨j,rfl⟩:∃ j,k=j + 1:=⟨k - 1,J7⟩
  have hlt:i < l.length:=by omega
  have hfl:table_field.f j l0 l1 l[i].f0 l[i].f1 l[i].f2 l[i].f3 l[i].f4 l[i].f5 l[i].f6=some (tmField l0.length l1.length l[i]):=by
   obtain ⟨j2,rfl⟩:∃ j2,j=j2 + 2:=⟨j - 2,J7⟩
   exact tm_field j2 l0 l1 l[i] h0 h1
  have hrd:rd_T51 l (i:Int)=l[i]:=by unfold rd_T51;rw [List.getD_eq_getElem?_getD];simp [hlt]
  have hw:wrap64 ((i:Int) + 1)=((i + 1:Nat):Int):=by unfold wrap64;omega
  simp only [table_message.l0,hrd]
  rw [if_pos J7,if_pos J7,if_pos J7,hfl,List.drop_eq_getElem_cons hlt]
  simp only [Option.bind_some,tmFields]
  cases hf:tmField l0.length l1.length l[i]
  ·simp
  ·by_cases hla:l[i].f0≤last
   ·have:decide (last < l[i].f0)=false:=decide_eq_false J7
    rw [this]
    simp [hla]
   ·have:decide (last < l[i].f0)=true:=decide_eq_true J7
    rw [this,if_pos rfl,if_neg hla,if_pos (by rw [hX];simp;omega),hw]
    have hih:=ih (i + 1) (X++[l[i].f1]) l[i].f0 j J7 (by rw [hX,List.take_succ_eq_append_getElem hlt,List.map_append];rfl) J7
    rw [hih]
    simp
theorem tm_msg (l0:List (S57)) (l1:List (S119)) (x:S57) (h0:l0.length≤9223372036854775807) (h1:l1.length≤9223372036854775807) (hl:x.f1.length < 8796093022208) (hs:∀ y ∈ x.f1,y.f1.size≤maxLen):∃ k,table_message.f k l0 l1 x.f0 x.f1=some (tmMsg l0.length l1.length x) :=
 ⟨x.f1.length + 4,by
  unfold table_message.f tmMsg
  exact tm_loop l0 l1 x.f0 x.f1 h0 h1 hl hs x.f1.length 0 [] 0 _ J7 rfl J7⟩
def tmEnum (x:S119):Bool:=decide (1≤x.f1.length∧x.f1.length≤30) && (decide (x.f2.length=x.f1.length) && (uniqB (x.f1.map bl) && (uniqB (x.f2.map id) && (decide (rd x.f2 0=0) && !(x.f2.any wideI)))))
theorem tm_enum (x:S119) (hs:∀ s ∈ x.f1,s.size≤maxLen) (hn:∀ n ∈ x.f2,(Lit.int .i64 n).wf=true):table_enum.f x.f0 x.f1 x.f2=some (tmEnum x):=by
 unfold table_enum.f tmEnum slices_ContainsFunc_int64_int64.f table_unique_string.f table_unique_int64.f
 rw [if_pos rfl,if_pos hs,if_pos hn,tm_in]
 simp only [Option.bind_some]
 have e1:decide ((1:Int)≤(x.f1.length:Int)∧(x.f1.length:Int)≤30)=decide (1≤x.f1.length∧x.f1.length≤30):=decide_eq_decide.2 J7
 rw [e1]
 by_cases h1:1≤x.f1.length∧x.f1.length≤30
 ·rw [decide_eq_true h1,if_pos rfl]
  by_cases h2:x.f2.length=x.f1.length
  ·rw [if_pos J7,decide_eq_true h2]
   cases uniqB (x.f1.map bl)
   ·rfl
   ·rw [if_pos rfl]
    cases uniqB (x.f2.map id)
    ·rfl
    ·rw [if_pos rfl,if_pos J7]
     by_cases h3:rd x.f2 0=0
     ·rw [if_pos h3,decide_eq_true h3];rfl
     ·rw [if_neg h3,decide_eq_false h3];rfl
  ·rw [if_neg J7,decide_eq_false h2];rfl
 ·rw [decide_eq_false h1,if_neg J11];rfl
def nameF (f:List UInt8→Option (Int × Int)) (nm:List UInt8) (q:Int × Int):List UInt8→Option (Int × Int):=if (f nm).isSome then f else fun x=>if x=nm then some q else f x
def NameP (W:World) (p mb n:Nat) (vM vE sM sE:Value) (a e:Int) (f:List UInt8→Option (Int × Int)) (en:Ending) (W':World):Prop:=en = .returned (.tuple #[])∧RB W' p vM vE (.map (some mb)) sM sE a e∧NMap W' mb n f∧KeepBut W W' p (some mb)∧∀ B,B≤p→B≤mb→Below B W W'
theorem NMap.keep {W W':World} {p mb n:Nat} {f:List UInt8→Option (Int × Int)} (h:NMap W mb n f) (hk:KeepBut W W' p none) (hne:mb≠p):NMap W' mb n f:=GM.move h (hk.2 mb h.lt hne J53)
theorem keep_mb {W V1 V2:World} {p mb:Nat} {o:Obj} (h:Below W.heap.size W V1) (k:KeepBut (V1.alloc o) V2 p none):KeepBut W V2 p (some mb):=by
 have hs:(V1.alloc o).heap.size=V1.heap.size + 1:=World.size_alloc _ _
 have h1:=h.size
 have h2:=k.1
 refine ⟨J7,fun i hi hp _=>?_⟩
 rw [k.2 i J7 hp J53,(below_alloc (Below.refl V1.heap.size V1) o).block i J7,h.block i hi]
theorem keep_put {W V V3:World} {p mb:Nat} (k:KeepBut W V p (some mb)) (h:V.drew.grownBy V3 (some mb)):KeepBut W V3 p (some mb):=by
 refine ⟨Nat.le_trans k.1 h.size,fun i hi hp hm=>?_⟩
 have h1:i < V.heap.size:=Nat.lt_of_lt_of_le hi k.1
 exact (h.block i h1 hm).trans (k.2 i hi hp hm)
theorem bel_mid {W V1 V2:World} {p:Nat} {o:Obj} (h:Below W.heap.size W V1) (k:V2.heap.size=(V1.alloc o).heap.size∧∀ B,B≤p→Below B (V1.alloc o) V2) (hp:p < W.heap.size):∀ B,B≤p→Below B W V2:=fun B hB =>
 (((h.mono J7).alloc (Nat.le_trans J7 h.size) o).trans (k.2 B hB))
theorem bel_put {W V2 V3:World} {p mb:Nat} (h:∀ B,B≤p→Below B W V2) (hg:V2.drew.grownBy V3 (some mb)) (hp:p < W.heap.size):∀ B,B≤p→B≤mb→Below B W V3:=fun B h1 h2 =>
 (h B h1).drew.grown hg (Nat.le_trans J7 (h B h1).size) (fun k hk=>by injection hk with hk;omega)
theorem kept_blk {W V1 V2:World} {p g:Nat} {o o2:Obj} (hb:V1.heap[g]?=some o2) (_h:Below W.heap.size W V1) (k:KeepBut (V1.alloc o) V2 p none) (hne:g≠p):V2.heap[g]?=some o2:=by
 have hs:(V1.alloc o).heap.size=V1.heap.size + 1:=World.size_alloc _ _
 have h1:=blk_lt hb
 rw [k.2 g J7 hne J53,(below_alloc (Below.refl V1.heap.size V1) o).block g h1,hb]
set_option maxHeartbeats 4000000 in
set_option maxRecDepth 100000 in
theorem name_s {W:World} {p mb n:Nat} {vM vE sM sE:Value} {a0 e0:Int} {f:List UInt8→Option (Int × Int)} (h:RB W p vM vE (.map (some mb)) sM sE a0 e0) (hN:NMap W mb n f) (hn:n < maxLen) (nm:ByteArray) (hs:nm.size≤maxLen) (q:Int × Int) (at_:Int) :
  Calls Tryz.prog 55 #[.pointer (some ⟨p,0,none⟩),.string nm,.agg #[.int .i64 q.1,.int .i64 q.2],.int .i64 at_] W (NameP W p mb (n + 1) vM vE sM sE (failE a0 e0 ((typO (bl nm)).isSome || (f (bl nm)).isSome) at_ 4).1 (failE a0 e0 ((typO (bl nm)).isSome || (f (bl nm)).isSome) at_ 4).2 (nameF f (bl nm) q)):=by
 have HR:=Y0 h
 have HN:=Y0 hN
 have HS:=Y0 hs
 have HM:=Y0 hn
 have hne:mb≠p:=by
  obtain ⟨es,c,hb⟩:=hN.is
  intro e
  subst e
  have h2:W.heap[mb]?=_:=h
  rw [h2] at hb
  injection hb with hb
  cases hb
 have HNE:=Y0 hne
 obtain ⟨q1,q2⟩:=q
 obtain ⟨b1,hb1⟩:∃ b1,b1=(typO (bl nm)).isSome:=⟨_,rfl⟩
 obtain ⟨b2,hb2⟩:∃ b2,b2=(f (bl nm)).isSome:=⟨_,rfl⟩
 obtain ⟨⟨x1,x2⟩,hx⟩:∃ q:Int × Int,q=(f (bl nm)).getD (0,0):=⟨_,rfl⟩
 obtain ⟨k0,hk0⟩:∃ k0,k0=(typO (bl nm)).getD 0:=⟨_,rfl⟩
 unfold nameF
 rw [← hb1,← hb2]
 have HB1:=Y0 hb1
 have HB2:=Y0 hb2
 have HX:=Y0 hx
 have HK:=Y0 hk0
 clear h hN hs hn hne hb1 hb2 hx hk0
 go_enter Tryz.func55,Tryz.ntmps55
 go_wp2_with fail
 have kq:=blk_new W (.cells #[.int .i64 q1,.int .i64 q2] 111 (0,0))
 have hz:(W.alloc (.cells #[.int .i64 q1,.int .i64 q2] 111 (0,0))).heap.size=W.heap.size + 1:=World.size_alloc _ _
 have hlo:=below_alloc (Below.refl W.heap.size W) (.cells #[.int .i64 q1,.int .i64 q2] 111 (0,0))
 generalize W.alloc (.cells #[.int .i64 q1,.int .i64 q2] 111 (0,0))=V0 at *
 refine (tplain_s _).mono ?_
 rintro e V1 ⟨rfl,hp,hb⟩
 have hl:=hp.look_ok (s:=nm) HS.out
 rw [← HK.out,← HB1.out] at hl
 have HBL:=Y0 (below_step hlo hb)
 have KQ:=Y0 (blk_below kq hb)
 have R1:=Y0 (blk_below HR.out HBL.out)
 have N1:=Y0 (HN.out.below HBL.out)
 have hn1:=NMap.look_ok N1.out (s:=nm) HS.out
 rw [← HX.out,← HB2.out] at hn1
 simp only [plV] at hn1
 have c2:V1.cell? ⟨p,2,none⟩=some (.map (some mb)):=(blk_cell R1.out 2).trans rfl
 rw [hz] at hl
 rw [hz]
 have hzs:W.heap.size + 1≤V1.heap.size:=by have:=hb.size;omega
 have PQ:Aside0 (W.heap.size≠p):=⟨fun e=>by have:=blk_lt HR.out;omega⟩
 clear hp kq hlo hz hb
 cases b2
 ·cases b1
  ·go_wp2_with (go_at_call 56;refine (fail_s (blk_alloc R1.out _) _ _ _).mono ?_;rintro e V2 ⟨rfl,hr2,hk2,hsz2⟩;have HR2:=Y0 hr2;have HK2:=Y0 hk2;have HN2:=Y0 (NMap.keep (GM.below N1.out (below_alloc (Below.refl _ V1) _)) hk2 HNE.out);have KQ2:=Y0 (kept_blk KQ.out HBL.out hk2 PQ.out);have HZ2:=Y0 (bel_mid HBL.out hsz2 (blk_lt HR.out));clear hr2 hk2 c2 hn1 hl hsz2)
   have c2:V2.cell? ⟨p,2,none⟩=some (.map (some mb)):=(blk_cell HR2.out 2).trans rfl
   have d0:V2.cell? ⟨W.heap.size,0,none⟩=some (.int .i64 q1):=(blk_cell KQ2.out 0).trans rfl
   have d1:V2.cell? ⟨W.heap.size,1,none⟩=some (.int .i64 q2):=(blk_cell KQ2.out 1).trans rfl
   obtain ⟨V3,hrun,hn3,hg3⟩:=NMap.put (W:=V2.drew) (GM.move HN2.out rfl) HM.out HS.out (q1,q2)
   simp only [plV] at hrun
   have HN3:=Y0 hn3
   have HG3:=Y0 hg3
   clear hn3 hg3
   go_region
   all_goals (go_wp2;go_end0;exact ⟨rfl,(HG3.out.block p (blk_lt HR2.out) (fun e=>HNE.out J107)).trans HR2.out,HN3.out,keep_put (keep_mb HBL.out HK2.out) HG3.out,bel_put HZ2.out HG3.out (blk_lt HR.out)⟩)
  ·go_wp2_with (go_at_call 56;refine (fail_s (blk_alloc R1.out _) _ _ _).mono ?_;rintro e V2 ⟨rfl,hr2,hk2,hsz2⟩;have HR2:=Y0 hr2;have HK2:=Y0 hk2;have HN2:=Y0 (NMap.keep (GM.below N1.out (below_alloc (Below.refl _ V1) _)) hk2 HNE.out);have KQ2:=Y0 (kept_blk KQ.out HBL.out hk2 PQ.out);have HZ2:=Y0 (bel_mid HBL.out hsz2 (blk_lt HR.out));clear hr2 hk2 c2 hn1 hl hsz2)
   have c2:V2.cell? ⟨p,2,none⟩=some (.map (some mb)):=(blk_cell HR2.out 2).trans rfl
   have d0:V2.cell? ⟨W.heap.size,0,none⟩=some (.int .i64 q1):=(blk_cell KQ2.out 0).trans rfl
   have d1:V2.cell? ⟨W.heap.size,1,none⟩=some (.int .i64 q2):=(blk_cell KQ2.out 1).trans rfl
   obtain ⟨V3,hrun,hn3,hg3⟩:=NMap.put (W:=V2.drew) (GM.move HN2.out rfl) HM.out HS.out (q1,q2)
   simp only [plV] at hrun
   have HN3:=Y0 hn3
   have HG3:=Y0 hg3
   clear hn3 hg3
   go_region
   all_goals (go_wp2;go_end0;exact ⟨rfl,(HG3.out.block p (blk_lt HR2.out) (fun e=>HNE.out J107)).trans HR2.out,HN3.out,keep_put (keep_mb HBL.out HK2.out) HG3.out,bel_put HZ2.out HG3.out (blk_lt HR.out)⟩)
 ·cases b1
  ·go_wp2_with (go_at_call 56;refine (fail_s (blk_alloc R1.out _) _ _ _).mono ?_;rintro e V2 ⟨rfl,hr2,hk2,hsz2⟩;have HR2:=Y0 hr2;have HK2:=Y0 hk2;have HN2:=Y0 (NMap.keep (GM.below N1.out (below_alloc (Below.refl _ V1) _)) hk2 HNE.out);have KQ2:=Y0 (kept_blk KQ.out HBL.out hk2 PQ.out);have HZ2:=Y0 (bel_mid HBL.out hsz2 (blk_lt HR.out));clear hr2 hk2 c2 hn1 hl hsz2)
   go_end0
   exact ⟨rfl,HR2.out,GM.mono HN2.out (Nat.le_succ _) (fun _=>rfl),keep_mb HBL.out HK2.out,fun B h1 _=>HZ2.out B h1⟩
  ·go_wp2_with (go_at_call 56;refine (fail_s (blk_alloc R1.out _) _ _ _).mono ?_;rintro e V2 ⟨rfl,hr2,hk2,hsz2⟩;have HR2:=Y0 hr2;have HK2:=Y0 hk2;have HN2:=Y0 (NMap.keep (GM.below N1.out (below_alloc (Below.refl _ V1) _)) hk2 HNE.out);have KQ2:=Y0 (kept_blk KQ.out HBL.out hk2 PQ.out);have HZ2:=Y0 (bel_mid HBL.out hsz2 (blk_lt HR.out));clear hr2 hk2 c2 hn1 hl hsz2)
   go_end0
   exact ⟨rfl,HR2.out,GM.mono HN2.out (Nat.le_succ _) (fun _=>rfl),keep_mb HBL.out HK2.out,fun B h1 _=>HZ2.out B h1⟩
def qE (b:Bool):DataW Unit:=.lit (.bool b)
theorem qE_inv {v:Value} {d:DataW Unit} {ps:List MemPlace} (h:plainElem Tryz.prog 4 v=some (d,ps)):∃ b,v = .bool b∧d=qE b:=by
 unfold plainElem at h
 rw [tb_bool] at h
 cases v <;> simp at h
 rename_i b
 exact ⟨b,rfl,h.1.symm⟩
theorem qE_el (b:Bool):plainElem Tryz.prog 4 (.bool b)=some (qE b,[]):=plainElem_bool tb_bool b
theorem qE_inj {a b:Bool} (h:qE a=qE b):a=b:=by injection h with h;injection h
theorem tb_zB (w:World):(zeroValue 4).run Tryz.prog w = .ok (.bool false) w:=by kernel_rfl
theorem tb_mSB:Tryz.prog.underlying 169=some (.map 9 4):=by kernel_rfl
theorem tb_mIB:Tryz.prog.underlying 170=some (.map 2 4):=by kernel_rfl
abbrev SSet (W:World) (mb n:Nat) (f:List UInt8→Option Bool):Prop:=GM 9 slit (plainElem Tryz.prog 4) qE W mb n f
abbrev ISet (W:World) (mb n:Nat) (f:Int→Option Bool):Prop:=GM 2 nlit (plainElem Tryz.prog 4) qE W mb n f
theorem qE_get {o:Option Bool} {v:Value} {ps:List MemPlace} (h:plainElem Tryz.prog 4 v=some ((o.map qE).getD (qE false),ps)):v = .bool (o.getD false):=by
 obtain ⟨b,rfl,h2⟩:=qE_inv h
 cases o with
 | none=>rw [← qE_inj h2];rfl
 | some y=>rw [← qE_inj h2];rfl
theorem SSet.look {W:World} {mb n:Nat} {f:List UInt8→Option Bool} (h:SSet W mb n f) {s:ByteArray} (hs:s.size≤maxLen) :
  (Instr.lookup 169 (.map (some mb)) (.string s) false).run Tryz.prog W = .ok (.bool ((f (bl s)).getD false)) W:=by
 obtain ⟨v,ps,h1,h2⟩:=GM.look h key_str tb_mSB (tb_zB W) (qE_el false) (at_str hs)
 rw [← qE_get h2]
 exact h1
theorem SSet.put {W:World} {mb n:Nat} {f:List UInt8→Option Bool} (h:SSet W mb n f) (hn:n < maxLen) {s:ByteArray} (hs:s.size≤maxLen) (b:Bool) :
  ∃ W',(Instr.mapUpdate 169 (.map (some mb)) (.string s) (.bool b)).run Tryz.prog W = .ok () W'∧SSet W' mb (n + 1) (fun x=>if x=bl s then some b else f x)∧W.grownBy W' (some mb) :=
 GM.put (y:=b) (ps:=[]) h key_str tb_mSB hn (at_str hs) (qE_el b)
theorem ISet.look {W:World} {mb n:Nat} {f:Int→Option Bool} (h:ISet W mb n f) {q:Int} (hq:(Lit.int .i64 q).wf=true) :
  (Instr.lookup 170 (.map (some mb)) (.int .i64 q) false).run Tryz.prog W = .ok (.bool ((f q).getD false)) W:=by
 obtain ⟨v,ps,h1,h2⟩:=GM.look h key_i64 tb_mIB (tb_zB W) (qE_el false) (at_i64 hq)
 rw [← qE_get h2]
 exact h1
theorem ISet.put {W:World} {mb n:Nat} {f:Int→Option Bool} (h:ISet W mb n f) (hn:n < maxLen) {q:Int} (hq:(Lit.int .i64 q).wf=true) (b:Bool) :
  ∃ W',(Instr.mapUpdate 170 (.map (some mb)) (.int .i64 q) (.bool b)).run Tryz.prog W = .ok () W'∧ISet W' mb (n + 1) (fun x=>if x=q then some b else f x)∧W.grownBy W' (some mb) :=
 GM.put (y:=b) (ps:=[]) h key_i64 tb_mIB hn (at_i64 hq) (qE_el b)
section
variable {κ β:Type} {kt:TypeId} {kl:κ→Lit} {R:Value→Option (DataW Unit × List MemPlace)} {enc:β→DataW Unit} {W W':World} {mb n:Nat} {f:κ→Option β}
theorem gm_ne (h:GM kt kl R enc W mb n f) {g:Nat} {cs:Array Value} {t:TypeId} {x:Nat × Nat} (hb:W.heap[g]?=some (.cells cs t x)):mb≠g:=by
 obtain ⟨es,c,h1⟩:=h.is
 rintro rfl
 rw [h1] at hb
 injection hb with hb
 cases hb
theorem gm_own {α:Type} {d:Kd α} {t B:Nat} {ok:Nat→Prop} {v:Value} {xs:List α} (h:GM kt kl R enc W mb n f) (hr:d.R t W B ok v xs):some mb≠v.ownBlock:=by
 intro e
 obtain ⟨cells,hc⟩:=Kd.R_typed hr mb e.symm
 exact gm_ne h hc rfl
theorem gm_set (h:GM kt kl R enc W mb n f) {g:Nat} {cs:Array Value} {t:TypeId} {x:Nat × Nat} (hb:W.heap[g]?=some (.cells cs t x)) (j:Nat) (u:Value):GM kt kl R enc (W.setCell ⟨g,j,none⟩ u) mb n f :=
 h.move (Below.heap_setCell W ⟨g,j,none⟩ u mb (gm_ne h hb))
theorem gm_keep (h:GM kt kl R enc W mb n f) {g:Nat} {cs:Array Value} {t:TypeId} {x:Nat × Nat} (hb:W.heap[g]?=some (.cells cs t x)) (hk:KeepBut W W' g none):GM kt kl R enc W' mb n f :=
 h.move (hk.2 mb h.lt (gm_ne h hb) J53)
theorem gm_app {α:Type} {d:Kd α} {t B:Nat} {ok:Nat→Prop} {v:Value} {xs:List α} (h:GM kt kl R enc W mb n f) (hr:d.R t W B ok v xs) (hg:W.grownBy W' v.ownBlock):GM kt kl R enc W' mb n f:=h.grown hg (gm_own h hr)
theorem gm_two (h:GM kt kl R enc W mb n f) {g:Nat} (hg:W.grownBy W' (some g)) (hne:mb≠g):GM kt kl R enc W' mb n f:=h.grown hg (fun e=>hne (by injection e))
theorem R_put_map {α:Type} {d:Kd α} {t B:Nat} {ok:Nat→Prop} {v:Value} {xs:List α} (h:d.R t W B ok v xs) (hm:GM kt kl R enc W mb n f) (hg:W.grownBy W' (some mb)):d.R t W' B ok v xs :=
 Kd.R_mono (Kd.R_step (Kd.R_bound h) (fun k hk hlt=>hg.block k hlt (fun e=>by
  obtain ⟨_,_,_,q,_,cells,hc⟩:=hk
  exact gm_ne hm hc J107))) (fun _ hk=>hk.1)
theorem blk_put_map {g:Nat} {cs:Array Value} {t:TypeId} {x:Nat × Nat} (h:W.heap[g]?=some (.cells cs t x)) (hm:GM kt kl R enc W mb n f) (hg:W.grownBy W' (some mb)):W'.heap[g]?=some (.cells cs t x) :=
 (hg.block g (blk_lt h) (fun e=>gm_ne hm h J107)).trans h
end
theorem R_keepP {α:Type} {d:Kd α} {t t' B g:Nat} {cs:Array Value} {ok:Nat→Prop} {W W':World} {v:Value} {xs:List α} (h:d.R t W B ok v xs) (hb:W.heap[g]?=some (.cells cs t' (0,0))) (ht:∀ q,q ∈ t :: d.E→q≠t') (hk:KeepBut W W' g none):d.R t W' B ok v xs :=
 Kd.R_mono (Kd.R_keep (Kd.R_types h hb ht) hk (fun _ h=>h.2)) (fun _ hk=>hk.1)
structure RS (B:Nat) (ok:Nat→Prop) (W:World) (p mb n:Nat) (vA vB:Value) (f:List UInt8→Option (Int × Int)) (M:List (S57)) (E:List (S119)) (a e:Int) (vM vE:Value):Prop where
 blk:RB W p vA vB (.map (some mb)) vM vE a e
 rM:k57.R 57 W B ok vM M
 rE:k119.R 119 W B ok vE E
 nm:NMap W mb n f
 hp:B≤p
 hm:B≤mb
section
variable {B:Nat} {ok ok':Nat→Prop} {W W':World} {p mb n:Nat} {vA vB:Value} {f:List UInt8→Option (Int × Int)} {M:List (S57)} {E:List (S119)} {a e:Int} {vM vE:Value}
theorem RS.below (H:RS B ok W p mb n vA vB f M E a e vM vE) (hb:Below W.heap.size W W'):RS B ok W' p mb n vA vB f M E a e vM vE :=
 ⟨blk_below H.blk hb,Kd.R_below H.rM hb,Kd.R_below H.rE hb,H.nm.below hb,H.hp,H.hm⟩
theorem RS.wide (H:RS B ok W p mb n vA vB f M E a e vM vE) (h:∀ k,ok k→ok' k):RS B ok' W p mb n vA vB f M E a e vM vE:=⟨H.blk,Kd.R_mono H.rM h,Kd.R_mono H.rE h,H.nm,H.hp,H.hm⟩
theorem RS.old (H:RS B ok W p mb n vA vB f M E a e vM vE):RS B (fun k=>k < W.heap.size) W p mb n vA vB f M E a e vM vE:=⟨H.blk,Kd.R_mono (Kd.R_bound H.rM) (fun _ h=>h.2.2.1),Kd.R_mono (Kd.R_bound H.rE) (fun _ h=>h.2.2.1),H.nm,H.hp,H.hm⟩
theorem RS.err {a' e':Int} (H:RS B ok W p mb n vA vB f M E a e vM vE) (hr:RB W' p vA vB (.map (some mb)) vM vE a' e') (hk:KeepBut W W' p none):RS B ok W' p mb n vA vB f M E a' e' vM vE :=
 ⟨hr,R_keepP H.rM H.blk J11 hk,R_keepP H.rE H.blk J11 hk,gm_keep H.nm H.blk hk,H.hp,H.hm⟩
theorem RS.put {κ β:Type} {kt:TypeId} {kl:κ→Lit} {R:Value→Option (DataW Unit × List MemPlace)} {enc:β→DataW Unit} {g m:Nat} {f1:κ→Option β} (H:RS B ok W p mb n vA vB f M E a e vM vE) (hm:GM kt kl R enc W g m f1) (hne:mb≠g) (hg:W.grownBy W' (some g)):RS B ok W' p mb n vA vB f M E a e vM vE :=
 ⟨blk_put_map H.blk hm hg,R_put_map H.rM hm hg,R_put_map H.rE hm hg,gm_two H.nm hg hne,H.hp,H.hm⟩
theorem RS.app {α:Type} {d:Kd α} {t D:Nat} {ok2:Nat→Prop} {v:Value} {xs:List α} (H:RS B (fun k=>k < D) W p mb n vA vB f M E a e vM vE) (hr:d.R t W D ok2 v xs) (h0:t≠108) (hg:W.grownBy W' v.ownBlock):RS B (fun k=>k < D) W' p mb n vA vB f M E a e vM vE :=
 have hok:∀ k,k < D→some k≠v.ownBlock:=fun k hk e=>by have:=Kd.R_base hr k e.symm;omega
 ⟨blk_grow hr H.blk h0 hg,Kd.R_grown H.rM hg hok,Kd.R_grown H.rE hg hok,gm_app H.nm hr hg,H.hp,H.hm⟩
theorem RS.far {D g t:Nat} {cs:Array Value} (H:RS B (fun k=>k < D) W p mb n vA vB f M E a e vM vE) (hb:W.heap[g]?=some (.cells cs t (0,0))) (h0:t≠108) (hD:D≤g) (j:Nat) (u:Value):RS B (fun k=>k < D) (W.setCell ⟨g,j,none⟩ u) p mb n vA vB f M E a e vM vE :=
 ⟨blk_far H.blk (p:=⟨g,j,none⟩) (fun e=>blk_ne hb H.blk h0 e.symm) u,Kd.R_far (p:=⟨g,j,none⟩) H.rM (fun k hk=>Nat.ne_of_lt (Nat.lt_of_lt_of_le hk hD)) u,Kd.R_far (p:=⟨g,j,none⟩) H.rE (fun k hk=>Nat.ne_of_lt (Nat.lt_of_lt_of_le hk hD)) u,gm_set H.nm hb j u,H.hp,H.hm⟩
theorem RS.appE {v:Value} {l:List (S119)} (H:RS B (fun _=>True) W p mb n vA vB f M E a e vM vE) (hR:k119.R 119 W' B (fun _=>True) v l) (hg:W.grownBy W' vE.ownBlock):RS B (fun _=>True) (W'.setCell ⟨p,4,none⟩ v) p mb n vA vB f M l a e vM v:=by
 have hb:=blk_grow H.rE H.blk J11 hg
 exact ⟨blk_put hb 4 _ rfl,Kd.R_set (Kd.R_over H.rM H.rE J11 hg) hb J11 4 v,Kd.R_set hR hb J11 4 v,gm_set (gm_app H.nm H.rE hg) hb 4 v,H.hp,H.hm⟩
theorem RS.appM {v:Value} {l:List (S57)} (H:RS B (fun _=>True) W p mb n vA vB f M E a e vM vE) (hR:k57.R 57 W' B (fun _=>True) v l) (hg:W.grownBy W' vM.ownBlock):RS B (fun _=>True) (W'.setCell ⟨p,3,none⟩ v) p mb n vA vB f l E a e v vE:=by
 have hb:=blk_grow H.rM H.blk J11 hg
 exact ⟨blk_put hb 3 _ rfl,Kd.R_set hR hb J11 3 v,Kd.R_set (Kd.R_over H.rE H.rM J11 hg) hb J11 3 v,gm_set (gm_app H.nm H.rM hg) hb 3 v,H.hp,H.hm⟩
end
def enBad (i:Nat) (v:S92) (S:List UInt8→Option Bool) (N:Int→Option Bool):Bool :=
 (S (bl v.f0)).getD false || ((N v.f1).getD false || (decide (v.f1 < -2147483648) || (decide (2147483647 < v.f1) || ((i == 0) && (v.f1 != 0)))))
def setS (S:List UInt8→Option Bool) (x:List UInt8):List UInt8→Option Bool:=fun y=>if y=x then some true else S y
def setN (N:Int→Option Bool) (x:Int):Int→Option Bool:=fun y=>if y=x then some true else N y
def enL:Nat→List (S92)→(List UInt8→Option Bool)→(Int→Option Bool)→Int→Int→Int × Int
 | _,[],_,_,a,e=>(a,e)
 | i,v :: l,S,N,a,e=>enL (i + 1) l (setS S (bl v.f0)) (setN N v.f1) (failE a e (enBad i v S N) v.f2 4).1 (failE a e (enBad i v S N) v.f2 4).2
theorem row_one {α:Type} {R:α→List Value→Prop} {w:World} {a t k:Nat} {cs:Array Value} {x:α} (hb:w.heap[a]?=some (.cells cs t (0,0))) (hl:cs.size=k) (hr:R x cs.toList):ReadsRow R k w (some ⟨a,0,none⟩) 1 [x]:=by
 refine ⟨rfl,J11,fun _=>⟨_,rfl,fun j p hj=>?_⟩⟩
 match j,hj with
 | 0,hj =>
  obtain rfl:x=p:=Option.some.inj hj
  refine ⟨cs.toList,by simpa using hl,hr,fun i u hu=>?_⟩
  have e:(Addr.add ⟨a,0,none⟩ (0 * k + i))=⟨a,i,none⟩:=by
   simp only [Addr.add,Nat.zero_mul,Nat.zero_add]
   split
   ·rename_i h0;rw [h0]
   ·rfl
  rw [e,blk_cell hb i]
  simpa using hu
 | j + 1,hj=>simp at hj
structure EI (w0:World) (D p mb n:Nat) (vA vB:Value) (f:List UInt8→Option (Int × Int)) (M:List (S57)) (E:List (S119)) (a e:Int) (vM vE:Value) (h:Nat) (nm:ByteArray) (V:List ByteArray) (N:List Int) (cV cN vV vN:Value) (m1 m2 k1 k2:Nat) (S:List UInt8→Option Bool) (T:Int→Option Bool) (W:World):Prop where
 rs:RS w0.heap.size (fun k=>k < D) W p mb n vA vB f M E a e vM vE
 blk:W.heap[h]?=some (.cells #[.string nm,cV,cN] 119 (0,0))
 rV:Kd.string.R 9 W D (fun _=>True) vV V
 rN:(Kd.int .i64).R 2 W D (fun _=>True) vN N
 ss:SSet W m1 k1 S
 is:ISet W m2 k2 T
 bw:Below w0.heap.size w0 W
 dle:D≤W.heap.size
 hd:w0.heap.size≤D
 hh:D≤h
 h1:D≤m1
 h2:D≤m2
 h12:m1≠m2
 hmb:mb < D
section
variable {w0:World} {D p mb n:Nat} {vA vB:Value} {f:List UInt8→Option (Int × Int)} {M:List (S57)} {E:List (S119)} {a e:Int} {vM vE:Value} {h:Nat} {nm:ByteArray} {V:List ByteArray} {N:List Int} {cV cN vV vN:Value} {m1 m2 k1 k2:Nat} {S:List UInt8→Option Bool} {T:Int→Option Bool} {W W':World}
theorem EI.below (H:EI w0 D p mb n vA vB f M E a e vM vE h nm V N cV cN vV vN m1 m2 k1 k2 S T W) (hb:Below W.heap.size W W'):EI w0 D p mb n vA vB f M E a e vM vE h nm V N cV cN vV vN m1 m2 k1 k2 S T W' :=
 ⟨H.rs.below hb,blk_below H.blk hb,Kd.R_below H.rV hb,Kd.R_below H.rN hb,GM.below H.ss hb,GM.below H.is hb,below_then H.bw (Nat.le_trans H.hd H.dle) hb,Nat.le_trans H.dle hb.size,H.hd,H.hh,H.h1,H.h2,H.h12,H.hmb⟩
theorem EI.alloc (H:EI w0 D p mb n vA vB f M E a e vM vE h nm V N cV cN vV vN m1 m2 k1 k2 S T W) (o:Obj):EI w0 D p mb n vA vB f M E a e vM vE h nm V N cV cN vV vN m1 m2 k1 k2 S T (W.alloc o):=H.below (below_alloc (Below.refl _ W) o)
theorem EI.drew (H:EI w0 D p mb n vA vB f M E a e vM vE h nm V N cV cN vV vN m1 m2 k1 k2 S T W):EI w0 D p mb n vA vB f M E a e vM vE h nm V N cV cN vV vN m1 m2 k1 k2 S T W.drew:=H.below (below_drew (Below.refl _ W))
theorem EI.err {a' e':Int} (H:EI w0 D p mb n vA vB f M E a e vM vE h nm V N cV cN vV vN m1 m2 k1 k2 S T W) (hr:RB W' p vA vB (.map (some mb)) vM vE a' e') (hk:KeepBut W W' p none) (hb:∀ B,B≤p→Below B W W'):EI w0 D p mb n vA vB f M E a' e' vM vE h nm V N cV cN vV vN m1 m2 k1 k2 S T W' :=
 ⟨H.rs.err hr hk,hk.blk H.blk (blk_ne H.blk H.rs.blk J11) J53,R_keepP H.rV H.rs.blk J11 hk,R_keepP H.rN H.rs.blk J11 hk,gm_keep H.ss H.rs.blk hk,gm_keep H.is H.rs.blk hk,H.bw.trans (hb _ H.rs.hp),Nat.le_trans H.dle hk.1,H.hd,H.hh,H.h1,H.h2,H.h12,H.hmb⟩
theorem EI.putS (H:EI w0 D p mb n vA vB f M E a e vM vE h nm V N cV cN vV vN m1 m2 k1 k2 S T W) {x:List UInt8} (hm:SSet W' m1 (k1 + 1) (setS S x)) (hg:W.grownBy W' (some m1)):EI w0 D p mb n vA vB f M E a e vM vE h nm V N cV cN vV vN m1 m2 (k1 + 1) k2 (setS S x) T W' :=
 ⟨H.rs.put H.ss (by have:=H.h1;have:=H.hmb;omega) hg,blk_put_map H.blk H.ss hg,R_put_map H.rV H.ss hg,R_put_map H.rN H.ss hg,hm,gm_two H.is hg (fun e=>H.h12 e.symm),H.bw.grown hg (Nat.le_trans H.hd H.dle) (fun k hk=>by injection hk with hk;have:=H.h1;have:=H.hd;omega),Nat.le_trans H.dle hg.size,H.hd,H.hh,H.h1,H.h2,H.h12,H.hmb⟩
theorem EI.putN (H:EI w0 D p mb n vA vB f M E a e vM vE h nm V N cV cN vV vN m1 m2 k1 k2 S T W) {x:Int} (hm:ISet W' m2 (k2 + 1) (setN T x)) (hg:W.grownBy W' (some m2)):EI w0 D p mb n vA vB f M E a e vM vE h nm V N cV cN vV vN m1 m2 k1 (k2 + 1) S (setN T x) W' :=
 ⟨H.rs.put H.is (by have:=H.h2;have:=H.hmb;omega) hg,blk_put_map H.blk H.is hg,R_put_map H.rV H.is hg,R_put_map H.rN H.is hg,gm_two H.ss hg H.h12,hm,H.bw.grown hg (Nat.le_trans H.hd H.dle) (fun k hk=>by injection hk with hk;have:=H.h2;have:=H.hd;omega),Nat.le_trans H.dle hg.size,H.hd,H.hh,H.h1,H.h2,H.h12,H.hmb⟩
theorem EI.appV {v:Value} {l:List ByteArray} (H:EI w0 D p mb n vA vB f M E a e vM vE h nm V N cV cN vV vN m1 m2 k1 k2 S T W) (hR:Kd.string.R 9 W' D (fun _=>True) v l) (hg:W.grownBy W' vV.ownBlock):EI w0 D p mb n vA vB f M E a e vM vE h nm l N cV cN v vN m1 m2 k1 k2 S T W' :=
 ⟨H.rs.app H.rV J11 hg,blk_grow H.rV H.blk J11 hg,hR,Kd.R_over H.rN H.rV J11 hg,gm_app H.ss H.rV hg,gm_app H.is H.rV hg,H.bw.grown hg (Nat.le_trans H.hd H.dle) (fun k hk=>Nat.le_trans H.hd (Kd.R_base H.rV k hk)),Nat.le_trans H.dle hg.size,H.hd,H.hh,H.h1,H.h2,H.h12,H.hmb⟩
theorem EI.appN {v:Value} {l:List Int} (H:EI w0 D p mb n vA vB f M E a e vM vE h nm V N cV cN vV vN m1 m2 k1 k2 S T W) (hR:(Kd.int .i64).R 2 W' D (fun _=>True) v l) (hg:W.grownBy W' vN.ownBlock):EI w0 D p mb n vA vB f M E a e vM vE h nm V l cV cN vV v m1 m2 k1 k2 S T W' :=
 ⟨H.rs.app H.rN J11 hg,blk_grow H.rN H.blk J11 hg,Kd.R_over H.rV H.rN J11 hg,hR,gm_app H.ss H.rN hg,gm_app H.is H.rN hg,H.bw.grown hg (Nat.le_trans H.hd H.dle) (fun k hk=>Nat.le_trans H.hd (Kd.R_base H.rN k hk)),Nat.le_trans H.dle hg.size,H.hd,H.hh,H.h1,H.h2,H.h12,H.hmb⟩
theorem EI.set12 {u v:Value} (H:EI w0 D p mb n vA vB f M E a e vM vE h nm V N cV cN vV vN m1 m2 k1 k2 S T W):EI w0 D p mb n vA vB f M E a e vM vE h nm V N u v vV vN m1 m2 k1 k2 S T ((W.setCell ⟨h,1,none⟩ u).setCell ⟨h,2,none⟩ v):=by
 have b1:=blk_put (cs':=#[.string nm,u,cN]) H.blk 1 u rfl
 have b2:=blk_put (cs':=#[.string nm,u,v]) b1 2 v rfl
 have hw:w0.heap.size≤h:=Nat.le_trans H.hd H.hh
 exact ⟨(H.rs.far H.blk J11 H.hh 1 u).far b1 J11 H.hh 2 v,b2,Kd.R_set (Kd.R_set H.rV H.blk J11 1 u) b1 J11 2 v,Kd.R_set (Kd.R_set H.rN H.blk J11 1 u) b1 J11 2 v,gm_set (gm_set H.ss H.blk 1 u) b1 2 v,gm_set (gm_set H.is H.blk 1 u) b1 2 v,(H.bw.setCell (p:=⟨h,1,none⟩) hw u).setCell (p:=⟨h,2,none⟩) hw v,by simpa [World.setCell] using H.dle,H.hd,H.hh,H.h1,H.h2,H.h12,H.hmb⟩
theorem EI.c1 (H:EI w0 D p mb n vA vB f M E a e vM vE h nm V N cV cN vV vN m1 m2 k1 k2 S T W):W.cell? ⟨h,1,none⟩=some cV:=(blk_cell H.blk 1).trans rfl
theorem EI.c2 (H:EI w0 D p mb n vA vB f M E a e vM vE h nm V N cV cN vV vN m1 m2 k1 k2 S T W):W.cell? ⟨h,2,none⟩=some cN:=(blk_cell H.blk 2).trans rfl
end
theorem EI.start {w0 W:World} {p mb n:Nat} {vA vB:Value} {f:List UInt8→Option (Int × Int)} {M:List (S57)} {E:List (S119)} {a e:Int} {vM vE:Value} (H:RS w0.heap.size (fun _=>True) W p mb n vA vB f M E a e vM vE) (hw:Below w0.heap.size w0 W) (o1:Obj) (x0:ByteArray) :
  EI w0 W.heap.size p mb n vA vB f M E a e vM vE (W.heap.size + 1) x0 [] [] (.slice none 0 0) (.slice none 0 0) (.slice none 0 0) (.slice none 0 0) (W.heap.size + 2) (W.heap.size + 3) 0 0 (fun _=>none) (fun _=>none) ((((W.alloc o1).alloc (.cells #[.string x0,.slice none 0 0,.slice none 0 0] 119 (0,0))).alloc (.map #[] 0)).alloc (.map #[] 0)):=by
 have bb:=below_alloc (below_alloc (below_alloc (below_alloc (Below.refl _ W) o1) (.cells #[.string x0,.slice none 0 0,.slice none 0 0] 119 (0,0))) (.map #[] 0)) (.map #[] 0)
 have e1:(W.alloc o1).heap.size=W.heap.size + 1:=World.size_alloc _ _
 have e2:((W.alloc o1).alloc (.cells #[.string x0,.slice none 0 0,.slice none 0 0] 119 (0,0))).heap.size=W.heap.size + 2:=by rw [World.size_alloc,e1]
 have e3:(((W.alloc o1).alloc (.cells #[.string x0,.slice none 0 0,.slice none 0 0] 119 (0,0))).alloc (.map #[] 0)).heap.size=W.heap.size + 3:=by rw [World.size_alloc,e2]
 have b2:=blk_new (W.alloc o1) (.cells #[.string x0,.slice none 0 0,.slice none 0 0] 119 (0,0))
 have s3:SSet _ _ 0 (fun _=>none):=GM.made ((W.alloc o1).alloc (.cells #[.string x0,.slice none 0 0,.slice none 0 0] 119 (0,0)))
 have i4:ISet _ _ 0 (fun _=>none):=GM.made (((W.alloc o1).alloc (.cells #[.string x0,.slice none 0 0,.slice none 0 0] 119 (0,0))).alloc (.map #[] 0))
 rw [e1] at b2
 rw [e2] at s3
 rw [e3] at i4
 exact ⟨H.old.below bb,blk_alloc (blk_alloc b2 _) _,Kd.R_nil _ _ _ _ _,Kd.R_nil _ _ _ _ _,GM.below s3 (below_alloc (Below.refl _ _) _),i4,below_then hw hw.size bb,bb.size,hw.size,J7,J7,J7,J7,GM.lt H.nm⟩
def hasK (x:S36):Bool:=x.f1.toList != []
def fdTwo (x:S36):Bool:=(x.f2 && hasK x) || ((x.f3 != 0) && (x.f2 || hasK x))
def fdBad (nO:Nat) (x:S36) (S:List UInt8→Option Bool) (N:Int→Option Bool):Bool :=
 (S (bl x.f4)).getD false || (!tmNum x.f5 || ((N x.f5).getD false || (!(decide (0≤x.f3∧x.f3≤(nO:Int))) || fdTwo x)))
def keyN (x:S36):Int:=if hasK x=true then (typO (bl x.f1)).getD 0 else -1
def fdDef (f:List UInt8→Option (Int × Int)) (x:S36):S51:=⟨x.f5,x.f4,(kindF f (bl x.f0)).1,(kindF f (bl x.f0)).2.1,x.f2,keyN x,x.f3⟩
def fdE1 (nO:Nat) (x:S36) (S:List UInt8→Option Bool) (N:Int→Option Bool) (a e:Int):Int × Int:=failE a e (fdBad nO x S N) x.f6 4
def fdE2 (x:S36) (r:Int × Int):Int × Int:=if hasK x=true then failE r.1 r.2 (!(typO (bl x.f1)).isSome || !tmKey ((typO (bl x.f1)).getD 0)) x.f6 5 else r
def fdE3 (f:List UInt8→Option (Int × Int)) (x:S36) (r:Int × Int):Int × Int:=failE r.1 r.2 (!(kindF f (bl x.f0)).2.2) x.f6 3
def fdE (f:List UInt8→Option (Int × Int)) (nO:Nat) (x:S36) (S:List UInt8→Option Bool) (N:Int→Option Bool) (a e:Int):Int × Int:=fdE3 f x (fdE2 x (fdE1 nO x S N a e))
def fdL (f:List UInt8→Option (Int × Int)) (nO:Nat):List (S36)→(List UInt8→Option Bool)→(Int→Option Bool)→Int→Int→Int × Int
 | [],_,_,a,e=>(a,e)
 | x :: l,S,N,a,e=>fdL f nO l (setS S (bl x.f4)) (setN N x.f5) (fdE f nO x S N a e).1 (fdE f nO x S N a e).2
instance fdInh:Inhabited (S51):=⟨z51⟩
def fdCmp (x y:S51):Int:=Lib.compareInt x.f0 y.f0
def fdSort (l:List (S51)):List (S51):=(Go.Sort.pdq (ltOf fdCmp) l.toArray 0 l.toArray.size (Lib.bitLen l.toArray.size) true true).toList
def onesS (l:List ByteArray):List UInt8→Option Bool:=l.foldl (fun S x=>setS S (bl x)) (fun _=>none)
def resN (l:List Int):Int→Option Bool:=l.foldl (fun N x=>setN N x) (fun _=>none)
def msDef (f:List UInt8→Option (Int × Int)) (x:S34):S57:=⟨x.f0,fdSort (x.f1.map (fdDef f))⟩
def msE (f:List UInt8→Option (Int × Int)) (x:S34) (a e:Int):Int × Int:=fdL f x.f2.length x.f1 (onesS x.f2) (resN x.f3) a e
def enDef (x:S68):S119:=⟨x.f0,x.f1.map (·.f0),x.f1.map (·.f1)⟩
def enE (x:S68) (a e:Int):Int × Int:=enL 0 x.f1 (fun _=>none) (fun _=>none) a e
abbrev NmSt:=(List UInt8→Option (Int × Int)) × Int × Int
def mgE (i:Nat) (x:S34) (s:NmSt):NmSt :=
 let r:=failE s.2.1 s.2.2 ((typO (bl x.f0)).isSome || (s.1 (bl x.f0)).isSome) x.f4 4
 let q:=failE r.1 r.2 (decide (30 < x.f1.length) || decide (30 < x.f2.length)) x.f4 2
 (nameF s.1 (bl x.f0) (9,(i:Int)),q.1,q.2)
def egE (i:Nat) (x:S68) (s:NmSt):NmSt :=
 let r:=failE s.2.1 s.2.2 ((typO (bl x.f0)).isSome || (s.1 (bl x.f0)).isSome) x.f2 4
 let q:=failE r.1 r.2 ((x.f1.length == 0) || decide (30 < x.f1.length)) x.f2 2
 (nameF s.1 (bl x.f0) (6,(i:Int)),q.1,q.2)
def mgL:Nat→List (S34)→NmSt→NmSt
 | _,[],s=>s
 | i,x :: l,s=>mgL (i + 1) l (mgE i x s)
def egL:Nat→List (S68)→NmSt→NmSt
 | _,[],s=>s
 | i,x :: l,s=>egL (i + 1) l (egE i x s)
def mrL (f:List UInt8→Option (Int × Int)):List (S34)→Int × Int→Int × Int
 | [],r=>r
 | x :: l,r=>mrL f l (msE f x r.1 r.2)
def enuL:List (S68)→Int × Int→Int × Int
 | [],r=>r
 | x :: l,r=>enuL l (enE x r.1 r.2)
def rsN (M:List (S34)) (E:List (S68)):NmSt:=egL 0 E (mgL 0 M (fun _=>none,0,0))
def rsE (M:List (S34)) (E:List (S68)):Int × Int:=enuL E (mrL (rsN M E).1 M ((rsN M E).2.1,(rsN M E).2.2))
def rsF (M:List (S34)) (E:List (S68)):(List (S57) × List (S119)) × Int × Int :=
 if M.length=0∨20 < M.length∨20 < E.length then (([],[]),0,2)
 else if (rsE M E).2=0 then ((M.map (msDef (rsN M E).1),E.map enDef),0,0) else (([],[]),(rsE M E).1,(rsE M E).2)
def encF (x:S51):List Value:=[.int .i64 x.f0,.string x.f1,.int .i64 x.f2,.int .i64 x.f3,.bool x.f4,.int .i64 x.f5,.int .i64 x.f6]
theorem encF_len (x:S51):(encF x).length=7:=rfl
theorem encF_one (x:S51):∀ v ∈ encF x,v.oneCell'=true:=by
 intro v hv
 simp only [encF,List.mem_cons,List.not_mem_nil,or_false] at hv
 rcases hv with rfl|rfl|rfl|rfl|rfl|rfl|rfl <;> rfl
theorem encF_inv {w:World} {base:Nat} {ok:Nat→Prop} {x:S51} {cs:List Value} (h:k51.M w base ok x cs):cs=encF x:=by
 obtain ⟨a0,b0,rfl,h0,a1,b1,rfl,h1,a2,b2,rfl,h2,a3,b3,rfl,h3,a4,b4,rfl,h4,a5,b5,rfl,h5,h6⟩:=h
 have h0:a0=_:=h0
 have h1:a1=_:=h1
 have h2:a2=_:=h2
 have h3:a3=_:=h3
 have h4:a4=_:=h4
 have h5:a5=_:=h5
 have h6:b5=_:=h6
 subst h0 h1 h2 h3 h4 h5 h6
 rfl
theorem flat_at (l:List (S51)) (q r:Nat) (hq:q < l.length) (hr:r < 7):(Go.Sort.flatK encF 7 l.toArray)[q * 7 + r]?=(encF l[q])[r]?:=by
 have hlt:q * 7 + r < (Go.Sort.flatK encF 7 l.toArray).size:=by rw [Go.Sort.size_flatK];simp;omega
 have h7:(encF l[q]).length=7:=rfl
 rw [Array.getElem?_eq_getElem hlt,← getElem!_pos (Go.Sort.flatK encF 7 l.toArray) (q * 7 + r) hlt,Go.Sort.get_flatK _ _ _ _ J129,show (q * 7 + r) / 7=q from by omega,show (q * 7 + r) % 7=r from by omega,List.getElem?_eq_getElem (by rw [h7];exact hr)]
 have:l.toArray[q]! = l[q]:=by rw [getElem!_pos _ _ (by simpa using hq)];simp
 rw [this,getElem!_pos _ _ (by rw [h7];exact hr)]
theorem reps_flat (w:World) (base:Nat) (ok:Nat→Prop) (l:List (S51)):Reps (k51.M w base ok) 7 l (Go.Sort.flatK encF 7 l.toArray).toList:=by
 refine ⟨J53,fun j p hj=>?_⟩
 obtain ⟨hlt,hp⟩:=List.getElem?_eq_some_iff.1 hj
 have e:((Go.Sort.flatK encF 7 l.toArray).toList.drop (j * 7)).take 7=encF p:=by
  apply List.ext_getElem?
  intro r
  rw [List.getElem?_take]
  by_cases hr:r < 7
  ·rw [if_pos hr,List.getElem?_drop,Array.getElem?_toList,flat_at l j r hlt hr,hp]
  ·rw [if_neg hr,List.getElem?_eq_none (by rw [encF_len];omega)]
 rw [e]
 exact k51_mkM w base ok p
theorem sortW_heap (W:World) (g m:Nat) (ys:Array (S51)) (os:Array Obj) (i:Nat) (hi:i < W.heap.size):(sortWorldK encF 7 W g 0 m ys os).heap[i]?=if g=i then (W.heap[i]?).map (Go.Sort.onCells (Go.Sort.putCells id 0 (Go.Sort.flatK encF 7 ys))) else W.heap[i]?:=by
 unfold sortWorldK Go.Sort.grow Go.Sort.putRowK Go.Sort.putRow Go.Sort.mapBlock Go.Sort.ahead
 simp only
 rw [Array.getElem?_append_left (by simpa using hi),Array.getElem?_modify]
theorem R_sort {W:World} {D:Nat} {v:Value} {xs:List (S51)} (h:k51.R 51 W D (fun _=>True) v xs) (hne:0 < xs.length) :
  ∃ g cap,v = .slice (some ⟨g,0,none⟩) xs.length cap∧g < W.heap.size∧Go.Sort.HoldsK encF 7 W g 0 xs.toArray∧∀ (m:Nat) (os:Array Obj) (ys:List (S51)),ys.length=xs.length →
   k51.R 51 (sortWorldK encF 7 W g 0 m ys.toArray os) D (fun _=>True) v ys∧W.grownBy (sortWorldK encF 7 W g 0 m ys.toArray os) (some g):=by
 obtain ⟨_,inner,hown,hr⟩:=h
 obtain ⟨hlen,⟨_,h0⟩|⟨g,cap,cur,rfl,hg,hb,hnc,hcm,hcs,htk⟩⟩:=hown
 ·omega
 ·have hsz:k51.sz=7:=rfl
  rw [hsz] at hcs htk
  have hr':Reps (k51.M W D (fun k=>True∧some k≠(Value.slice (some ⟨g,0,none⟩) xs.length cap).ownBlock)) 7 xs inner:=hr
  have hfl:inner=(Go.Sort.flatK encF 7 xs.toArray).toList:=by
   apply List.ext_getElem?
   intro j
   by_cases hj:j < xs.length * 7
   ·have hq:j / 7 < xs.length:=by omega
    have e1:=encF_inv (hr'.2 (j / 7) _ (List.getElem?_eq_getElem hq))
    have e2:((inner.drop (j / 7 * 7)).take 7)[j % 7]?=inner[j]?:=by
     rw [List.getElem?_take,if_pos J7,List.getElem?_drop,show j / 7 * 7 + j % 7=j from by omega]
    rw [← e2,e1,Array.getElem?_toList (xs:=Go.Sort.flatK encF 7 xs.toArray)]
    have:=flat_at xs (j / 7) (j % 7) hq J7
    rw [show j / 7 * 7 + j % 7=j from by omega] at this
    exact this.symm
   ·rw [List.getElem?_eq_none (by rw [hr'.1];omega),List.getElem?_eq_none J129]
  have hlt:=blk_lt hb
  refine ⟨g,cap,rfl,hlt,fun j hj=>?_,fun m os ys hys=>?_⟩
  ·have hj2:j < xs.length * 7:=by simpa using hj
   rw [Nat.zero_add]
   refine ⟨?_,blk_frozen hb j⟩
   rw [blk_cell hb j]
   have e3:cur[j]?=inner[j]?:=by rw [← htk,List.getElem?_take,if_pos hj2,Array.getElem?_toList]
   rw [e3,hfl,Array.getElem?_toList,Array.getElem?_eq_getElem hj,getElem!_pos (Go.Sort.flatK encF 7 xs.toArray) j hj]
   rfl
  ·have hb2:=sortW_heap W g m ys.toArray os g hlt
   rw [if_pos rfl,hb] at hb2
   have hcs2:(Go.Sort.putCells id 0 (Go.Sort.flatK encF 7 ys.toArray) cur).size=cap * 7:=by unfold Go.Sort.putCells;rw [Array.size_mapIdx];exact hcs
   have hle:ys.length * 7≤cur.size:=by rw [hcs,hys];omega
   refine ⟨⟨fun _ _=>trivial,(Go.Sort.flatK encF 7 ys.toArray).toList,⟨?_,.inr ⟨g,cap,_,by rw [hys],hg,hb2,J7,hcm,hcs2,?_⟩⟩,reps_flat _ _ _ ys⟩,?_⟩
   ·rw [hsz];simp
   ·rw [hsz]
    apply List.ext_getElem?
    intro j
    rw [List.getElem?_take]
    by_cases hj:j < ys.length * 7
    ·rw [if_pos hj,Array.getElem?_toList,Array.getElem?_toList]
     unfold Go.Sort.putCells
     have hjs:j < (Go.Sort.flatK encF 7 ys.toArray).size:=by rw [Go.Sort.size_flatK];simpa using hj
     rw [Array.getElem?_mapIdx,Array.getElem?_eq_getElem (show j < cur.size by omega),Option.map_some,if_pos ⟨Nat.zero_le _,J7⟩,Nat.sub_zero,getElem!_pos (Go.Sort.flatK encF 7 ys.toArray) j hjs,Array.getElem?_eq_getElem hjs]
     rfl
    ·rw [if_neg hj,List.getElem?_eq_none J129]
   ·refine ⟨rfl,rfl,rfl,size_sortWorldK_c _ _ _ _ _ _ _ _,fun k hk hne=>?_⟩
    rw [sortW_heap W g m ys.toArray os k hk,if_neg (fun e=>hne (by rw [e]))]
def REnumP (w0:World) (p mb n:Nat) (vA vB:Value) (f:List UInt8→Option (Int × Int)) (M:List (S57)) (E:List (S119)) (r:Int × Int) (vM:Value) (en:Ending) (W':World):Prop :=
 en = .returned (.tuple #[])∧(∃ vE',RS w0.heap.size (fun _=>True) W' p mb n vA vB f M E r.1 r.2 vM vE')∧Below w0.heap.size w0 W'
theorem info_ED:(Tryz.prog.info? 119).map (fun i=>(i.zero,i.size,i.bytes))=some (some (.agg #[(.string ⟨#[]⟩),(.slice none 0 0),(.slice none 0 0)]),3,64):=by kernel_rfl
theorem drop_cons {α:Type} {l:List α} {i:Nat} (h:i < l.length):l.drop i=l[i] :: l.drop (i + 1):=List.drop_eq_getElem_cons h
set_option maxHeartbeats 4000000 in
set_option maxRecDepth 100000 in
theorem renum_s {w0 W:World} {p mb n:Nat} {vA vB vM vE:Value} {f:List UInt8→Option (Int × Int)} {M:List (S57)} {E:List (S119)} {a e:Int} (H:RS w0.heap.size (fun _=>True) W p mb n vA vB f M E a e vM vE) (hw:Below w0.heap.size w0 W) (x0:ByteArray) (l:List (S92)) (x2:Int) (A:Option Addr) (c:Nat) (hC:k92.C w0 A l.length l) (hc:l.length≤c) (hE:E.length≤1000000) (hn:l.length≤4398046511104) (hz:∀ v ∈ l,v.f0.size≤maxLen∧(Lit.int .i64 v.f1).wf=true) :
  Calls Tryz.prog 58 #[.pointer (some ⟨p,0,none⟩),.agg #[.string x0,.slice A l.length c,.int .i64 x2]] W (REnumP w0 p mb n vA vB f M (E++[⟨x0,l.map (·.f0),l.map (·.f1)⟩]) (enE ⟨x0,l,x2⟩ a e) vM):=by
 obtain ⟨R,hR⟩:∃ R,enL 0 l (fun _=>none) (fun _=>none) a e=R:=⟨_,rfl⟩
 have hE0:enE ⟨x0,l,x2⟩ a e=R:=hR
 rw [hE0]
 have HRR:=Y0 hR
 have HQ:=Y0 H
 have HW:=Y0 hw
 have HC:=Y0 hC
 have HZ:=Y0 hz
 have HEL:=Y0 hE
 have HLL:=Y0 hn
 have hmx:=Kd.C_max hC
 clear H hw hC hz hE hn hE0 hR
 have hmm:=@run_makeMap Tryz.prog
 go_enter Tryz.func58,Tryz.ntmps58
 go_wp2_with fail
 clear hmm
 have HE0:=Y0 (EI.start HQ.out HW.out (.cells #[.string x0,.slice A l.length c,.int .i64 x2] 68 (0,0)) x0)
 generalize (((W.alloc (.cells #[.string x0,.slice A l.length c,.int .i64 x2] 68 (0,0))).alloc (.cells #[.string x0,.slice none 0 0,.slice none 0 0] 119 (0,0))).alloc (.map #[] 0)).alloc (.map #[] 0)=W4 at *
 obtain ⟨h,hh⟩:∃ h,W.heap.size + 1=h:=⟨_,rfl⟩
 obtain ⟨m1,hm1⟩:∃ m,W.heap.size + 2=m:=⟨_,rfl⟩
 obtain ⟨m2,hm2⟩:∃ m,W.heap.size + 3=m:=⟨_,rfl⟩
 obtain ⟨D,hD⟩:∃ D,W.heap.size=D:=⟨_,rfl⟩
 rw [hh,hm1,hm2,hD] at HE0
 try rw [show W.heap.size + 1 + 1=m1 from hm1]
 try rw [show W.heap.size + 1 + 1 + 1=m2 from hm2]
 try rw [hm1]
 try rw [show m1 + 1=m2 from by omega]
 try rw [hm2]
 rw [hh]
 try rw [hD]
 clear hh hm1 hm2 hD HQ
 go_loopg [17] l.length (fun n_ vi_ V=>∃ (i:Nat) (a1 e1:Int) (S:List UInt8→Option Bool) (T:Int→Option Bool) (vV vN:Value),vi_ = .int .i64 i∧Aside0 (i + n_=l.length)∧Aside0 (EI w0 D p mb n vA vB f M E a1 e1 vM vE h x0 ((l.take i).map (·.f0)) ((l.take i).map (·.f1)) vV vN vV vN m1 m2 i i S T V)∧Aside0 (enL i (l.drop i) S T a1 e1=R))
 case atStart=>exact ⟨0,a,e,_,_,_,_,rfl,⟨J7⟩,HE0,HRR⟩
 case round =>
  clear HE0 HRR
  obtain ⟨i,a1,e1,S,T,vV,vN,rfl,HL,HE,HR⟩:=hrel
  by_cases hlt:i < l.length
  ·have d3:(0:Int)≤(i:Int):=by omega
   have d4:(i:Int) < (l.length:Int):=by omega
   obtain ⟨ad,had,z0,z1,z2⟩:=at_T92 HC.out i d3 d4
   obtain ⟨x,hx⟩:∃ x,x=l[i]'hlt:=⟨_,rfl⟩
   have hrd:rd_T92 l i=x:=by unfold rd_T92;rw [hx,List.getD_eq_getElem?_getD];simp [hlt]
   rw [hrd] at z0 z1 z2
   rw [Int.toNat_natCast] at z0 z1 z2
   replace z0:=(HE.out.bw.cell (World.block_lt_of_cell? w0 _ z0)).trans z0
   replace z1:=(HE.out.bw.cell (World.block_lt_of_cell? w0 _ z1)).trans z1
   replace z2:=(HE.out.bw.cell (World.block_lt_of_cell? w0 _ z2)).trans z2
   clear hrd
   subst had
   have hmem:x ∈ l:=by rw [hx];exact List.getElem_mem hlt
   have htake:l.take (i + 1)=l.take i++[x]:=by rw [hx];exact (List.take_succ_eq_append_getElem hlt)
   have hdrop:l.drop i=x :: l.drop (i + 1):=by rw [hx];exact drop_cons hlt
   clear hx
   obtain ⟨y0,y1,y2⟩:=x
   have HY:Aside0 (y0.size≤maxLen∧(Lit.int .i64 y1).wf=true):=⟨HZ.out _ hmem⟩
   have hr2:=HR.out
   rw [hdrop,enL] at hr2
   obtain ⟨BB,hBB⟩:∃ BB,BB=enBad i ⟨y0,y1,y2⟩ S T:=⟨_,rfl⟩
   rw [← hBB] at hr2
   obtain ⟨S2,hS2⟩:∃ S2,setS S (bl y0)=S2:=⟨_,rfl⟩
   obtain ⟨T2,hT2⟩:∃ T2,setN T y1=T2:=⟨_,rfl⟩
   have hr3:enL (i + 1) (l.drop (i + 1)) S2 T2 (failE a1 e1 BB y2 4).1 (failE a1 e1 BB y2 4).2=R:=by rw [← hS2,← hT2];exact hr2
   have HR2:=Y0 hr3
   have HS2:=Y0 hS2
   have HT2:=Y0 hT2
   have HTV:Aside0 ((l.take (i + 1)).map (·.f0)=(l.take i).map (·.f0)++[y0]):=⟨by rw [htake,List.map_append];rfl⟩
   have HTN:Aside0 ((l.take (i + 1)).map (·.f1)=(l.take i).map (·.f1)++[y1]):=⟨by rw [htake,List.map_append];rfl⟩
   have HLV:Aside0 (((l.take i).map (·.f0)).length=i):=⟨J129⟩
   have HLN:Aside0 (((l.take i).map (·.f1)).length=i):=⟨J129⟩
   generalize (l.take i).map (·.f0)=V at *
   generalize (l.take i).map (·.f1)=N at *
   replace HLV:Aside0 ((V.length + 1) * 16≤140737488355328):=⟨by rw [HLV.out];have:=HLL.out;omega⟩
   replace HLN:Aside0 ((N.length + 1) * 8≤140737488355328):=⟨by rw [HLN.out];have:=HLL.out;omega⟩
   have HI:Aside0 (i < maxLen):=⟨J127⟩
   have hl1:=fun (U:World) (hU:SSet U m1 i S)=>SSet.look hU (s:=y0) HY.out.1
   have hl2:=fun (U:World) (hU:ISet U m2 i T)=>ISet.look hU (q:=y1) HY.out.2
   obtain ⟨b1,hb1⟩:∃ b,(S (bl y0)).getD false=b:=⟨_,rfl⟩
   obtain ⟨b2,hb2⟩:∃ b,(T y1).getD false=b:=⟨_,rfl⟩
   obtain ⟨b3,hb3⟩:∃ b,decide (y1 < -2147483648)=b:=⟨_,rfl⟩
   obtain ⟨b4,hb4⟩:∃ b,decide (2147483647 < y1)=b:=⟨_,rfl⟩
   obtain ⟨b5,hb5n⟩:∃ b,(i == 0)=b:=⟨_,rfl⟩
   have hb5:((i:Int) == 0)=b5:=by rw [← hb5n];cases i <;> rfl
   obtain ⟨b6,hb6⟩:∃ b,(y1 != 0)=b:=⟨_,rfl⟩
   have HBB:Aside0 (BB=(b1 || (b2 || (b3 || (b4 || (b5 && b6)))))):=⟨by rw [← hb1,← hb2,← hb3,← hb4,← hb5n,← hb6];exact hBB⟩
   rw [hb1] at hl1
   rw [hb2] at hl2
   have HL1:=Y0 hl1
   have HL2:=Y0 hl2
   have HB3:=Y0 hb3
   have HB4:=Y0 hb4
   have HB5:=Y0 hb5
   have HB6:=Y0 hb6
   clear hBB hr2 hr3 hS2 hT2 hdrop htake hmem hl1 hl2 hb1 hb2 hb3 hb4 hb5n hb5 hb6 HR
   cases gk with
   | zero=>have:=HL.out;omega
   | succ k1 =>
    go_upto_region 6 with (fail)
    have HX:=Y0 (blk_new wr (.cells #[.string y0,.int .i64 y1,.int .i64 y2] 92 (0,0)))
    have HEb:=Y0 (HE.out.alloc (.cells #[.string y0,.int .i64 y1,.int .i64 y2] 92 (0,0)))
    clear HE z0 z1 z2
    have HE:=HEb
    clear HEb
    generalize wr.alloc (.cells #[.string y0,.int .i64 y1,.int .i64 y2] 92 (0,0))=V0 at *
    obtain ⟨vb,hvb⟩:∃ vb,wr.heap.size=vb:=⟨_,rfl⟩
    rw [hvb] at HX ⊢
    clear hvb
    go_cut [] (fun U=>Aside0 (EI w0 D p mb n vA vB f M E (failE a1 e1 BB y2 4).1 (failE a1 e1 BB y2 4).2 vM vE h x0 V N vV vN vV vN m1 m2 i i S T U)∧Aside0 (U.heap[vb]?=some (.cells #[.string y0,.int .i64 y1,.int .i64 y2] 92 (0,0))))
    case first =>
     have z0:_=some (Value.string y0):=(blk_cell HX.out 0).trans rfl
     have z1:_=some (Value.int .i64 y1):=(blk_cell HX.out 1).trans rfl
     have z2:_=some (Value.int .i64 y2):=(blk_cell HX.out 2).trans rfl
     have hl1:=HL1.out _ HE.out.ss
     have hl2:=HL2.out _ HE.out.is
     have hb3:=HB3.out
     have hb4:=HB4.out
     have hb5:=HB5.out
     have hb6:=HB6.out
     clear HL1 HL2 HB3 HB4 HB5 HB6
     cases b1
     ·cases b2
      ·cases b3
       ·cases b4
        ·cases b5
         ·have hB:BB=false:=HBB.out;subst hB;clear HBB;go_wp2_with (go_at_call 56;refine (fail_s HE.out.rs.blk false y2 4).mono ?_;rintro en_ V2 ⟨rfl,hr2,hk2,hsz2,hb2⟩;clear hsz2;have n1_:=Y0 (HE.out.err hr2 hk2 hb2);have n2_:=Y0 (hk2.blk HX.out (blk_ne HX.out HE.out.rs.blk J11) J53);clear hr2 hk2 hb2 z0 z1 z2 hl1 hl2 hb3 hb4 hb5 hb6);go_meet;exact ⟨n1_,n2_⟩
         ·cases b6
          ·have hB:BB=false:=HBB.out;subst hB;clear HBB;go_wp2_with (go_at_call 56;refine (fail_s HE.out.rs.blk false y2 4).mono ?_;rintro en_ V2 ⟨rfl,hr2,hk2,hsz2,hb2⟩;clear hsz2;have n1_:=Y0 (HE.out.err hr2 hk2 hb2);have n2_:=Y0 (hk2.blk HX.out (blk_ne HX.out HE.out.rs.blk J11) J53);clear hr2 hk2 hb2 z0 z1 z2 hl1 hl2 hb3 hb4 hb5 hb6);go_meet;exact ⟨n1_,n2_⟩
          ·have hB:BB=true:=HBB.out;subst hB;clear HBB;go_wp2_with (go_at_call 56;refine (fail_s HE.out.rs.blk true y2 4).mono ?_;rintro en_ V2 ⟨rfl,hr2,hk2,hsz2,hb2⟩;clear hsz2;have n1_:=Y0 (HE.out.err hr2 hk2 hb2);have n2_:=Y0 (hk2.blk HX.out (blk_ne HX.out HE.out.rs.blk J11) J53);clear hr2 hk2 hb2 z0 z1 z2 hl1 hl2 hb3 hb4 hb5 hb6);go_meet;exact ⟨n1_,n2_⟩
        ·have hB:BB=true:=HBB.out;subst hB;clear HBB;go_wp2_with (go_at_call 56;refine (fail_s HE.out.rs.blk true y2 4).mono ?_;rintro en_ V2 ⟨rfl,hr2,hk2,hsz2,hb2⟩;clear hsz2;have n1_:=Y0 (HE.out.err hr2 hk2 hb2);have n2_:=Y0 (hk2.blk HX.out (blk_ne HX.out HE.out.rs.blk J11) J53);clear hr2 hk2 hb2 z0 z1 z2 hl1 hl2 hb3 hb4 hb5 hb6);go_meet;exact ⟨n1_,n2_⟩
       ·have hB:BB=true:=HBB.out;subst hB;clear HBB;go_wp2_with (go_at_call 56;refine (fail_s HE.out.rs.blk true y2 4).mono ?_;rintro en_ V2 ⟨rfl,hr2,hk2,hsz2,hb2⟩;clear hsz2;have n1_:=Y0 (HE.out.err hr2 hk2 hb2);have n2_:=Y0 (hk2.blk HX.out (blk_ne HX.out HE.out.rs.blk J11) J53);clear hr2 hk2 hb2 z0 z1 z2 hl1 hl2 hb3 hb4 hb5 hb6);go_meet;exact ⟨n1_,n2_⟩
      ·have hB:BB=true:=HBB.out;subst hB;clear HBB;go_wp2_with (go_at_call 56;refine (fail_s HE.out.rs.blk true y2 4).mono ?_;rintro en_ V2 ⟨rfl,hr2,hk2,hsz2,hb2⟩;clear hsz2;have n1_:=Y0 (HE.out.err hr2 hk2 hb2);have n2_:=Y0 (hk2.blk HX.out (blk_ne HX.out HE.out.rs.blk J11) J53);clear hr2 hk2 hb2 z0 z1 z2 hl1 hl2 hb3 hb4 hb5 hb6);go_meet;exact ⟨n1_,n2_⟩
     ·have hB:BB=true:=HBB.out;subst hB;clear HBB;go_wp2_with (go_at_call 56;refine (fail_s HE.out.rs.blk true y2 4).mono ?_;rintro en_ V2 ⟨rfl,hr2,hk2,hsz2,hb2⟩;clear hsz2;have n1_:=Y0 (HE.out.err hr2 hk2 hb2);have n2_:=Y0 (hk2.blk HX.out (blk_ne HX.out HE.out.rs.blk J11) J53);clear hr2 hk2 hb2 z0 z1 z2 hl1 hl2 hb3 hb4 hb5 hb6);go_meet;exact ⟨n1_,n2_⟩
    case rest =>
     clear HE HX
     obtain ⟨HE,HX⟩:=hcut
     obtain ⟨W1,hr1,hs1,hg1⟩:=SSet.put (W:=wc.drew) HE.out.drew.ss HI.out (s:=y0) HY.out.1 true
     have HE1:=Y0 (HE.out.drew.putS (x:=bl y0) hs1 hg1)
     have HX1:=Y0 (blk_put_map (blk_drew HX.out) HE.out.drew.ss hg1)
     obtain ⟨W2,hr2,hs2,hg2⟩:=ISet.put HE1.out.is HI.out HY.out.2 true
     have HE2:=Y0 (HE1.out.putN (x:=y1) hs2 hg2)
     have HX2:=Y0 (blk_put_map HX1.out HE1.out.is hg2)
     have z0:_=some (Value.string y0):=(blk_cell HX.out 0).trans rfl
     have z1:_=some (Value.int .i64 y1):=(blk_cell HX.out 1).trans rfl
     have q1:_=some (Value.int .i64 y1):=(blk_cell HX1.out 1).trans rfl
     clear hs1 hg1 hs2 hg2 HE HX
     rw [HS2.out,HT2.out] at HE2
     go_upto_region 7 with (fail)
     go_cut [] (fun V=>V=W2)
     case first =>
      go_region
      all_goals (first|(go_meet;exact rfl)|(go_wp2;go_meet;exact rfl))
     case rest =>
      obtain rfl:=hcut
      clear z0 z1 q1 hr1 hr2 HE1 HX1
      have HE:=Y0 HE2.out.drew
      have HX:=Y0 (blk_drew HX2.out)
      have z0:_=some (Value.string y0):=(blk_cell HX.out 0).trans rfl
      have z1:_=some (Value.int .i64 y1):=(blk_cell HX.out 1).trans rfl
      clear HE2 HX2
      go_wp2_with fail
      refine start_ (n:=16) (S:=fun w'=>w'.cell? ⟨h,1,none⟩=some vV∧w'.cell? ⟨h,2,none⟩=some vN∧w'.cell? ⟨vb,0,none⟩=some (.string y0)∧w'.cell? ⟨vb,1,none⟩=some (.int .i64 y1)) (ds:=[11,13,15]) #[false,false,false,false,false,false,false,false,false,false,false,false,false,false,false,false] J0 rfl rfl ⟨HE.out.c1,HE.out.c2,z0,z1⟩ (fun hHeld=>?_)
      generalize wc.drew=WD at *
      refine pure_ (i:=0) (N:=some 61) (v:=?_) (a':=?_) (sqB 16 1) rfl rfl J0 (fun _ _ _ h=>h) (Or.inl ⟨J19,?_⟩) ?_ ?_;rotate_left;intro w';go_simp;with_reducible rfl;rotate_left;simp only [Act.put,Y14,Y15,Y16,i64_w];rfl
      refine pure_ (i:=2) (N:=some 63) (v:=?_) (a':=?_) (sqB 16 5) rfl rfl J0 (fun _ _ _ h=>h) (Or.inl ⟨J19,?_⟩) ?_ ?_;rotate_left;intro w';go_simp;with_reducible rfl;rotate_left;simp only [Act.put,Y14,Y15,Y16,i64_w];rfl
      refine pure_ (i:=6) (N:=some 67) (v:=?_) (a':=?_) (sqB 16 69) rfl rfl J0 (fun _ _ _ h=>h) (Or.inl ⟨J19,?_⟩) ?_ ?_;rotate_left;intro w';go_simp;with_reducible rfl;rotate_left;simp only [Act.put,Y14,Y15,Y16,i64_w];rfl
      refine pure_ (i:=8) (N:=some 69) (v:=?_) (a':=?_) (sqB 16 325) rfl rfl J0 (fun _ _ _ h=>h) (Or.inl ⟨J19,?_⟩) ?_ ?_;rotate_left;intro w';go_simp;with_reducible rfl;rotate_left;simp only [Act.put,Y14,Y15,Y16,i64_w];rfl
      refine take_ (i:=1) (N:=some 62) (v:=?_) (a':=?_) (sqB 16 327) rfl rfl J0 (fun _ _ _ h=>h) (Or.inl ⟨J19,?_⟩) hHeld ?_ ?_;rotate_left;rintro w' ⟨s0,s1,s2,s3⟩;go_simp;with_reducible rfl;rotate_left;simp only [Act.put,Y14,Y15,Y16,i64_w];rfl
      refine take_ (i:=3) (N:=some 64) (v:=?_) (a':=?_) (sqB 16 335) rfl rfl J0 (fun _ _ _ h=>h) (Or.inl ⟨J19,?_⟩) hHeld ?_ ?_;rotate_left;rintro w' ⟨s0,s1,s2,s3⟩;go_simp;with_reducible rfl;rotate_left;simp only [Act.put,Y14,Y15,Y16,i64_w];rfl
      refine take_ (i:=7) (N:=some 68) (v:=?_) (a':=?_) (sqB 16 463) rfl rfl J0 (fun _ _ _ h=>h) (Or.inl ⟨J19,?_⟩) hHeld ?_ ?_;rotate_left;rintro w' ⟨s0,s1,s2,s3⟩;go_simp;with_reducible rfl;rotate_left;simp only [Act.put,Y14,Y15,Y16,i64_w];rfl
      refine take_ (i:=9) (N:=some 70) (v:=?_) (a':=?_) (sqB 16 975) rfl rfl J0 (fun _ _ _ h=>h) (Or.inl ⟨J19,?_⟩) hHeld ?_ ?_;rotate_left;rintro w' ⟨s0,s1,s2,s3⟩;go_simp;with_reducible rfl;rotate_left;simp only [Act.put,Y14,Y15,Y16,i64_w];rfl
      refine join_ (σ:=Value × Nat × Nat) 4 #[true,true,true,true,true,true,true,true,true,true,true,false,true,false,false,false] (fun s=>[(65,.slice (some ⟨s.2.1,0,none⟩) 1 1),(66,s.1),(71,.slice (some ⟨s.2.2,0,none⟩) 1 1),(73,.pointer (some ⟨h,1,none⟩))]) (fun s w'=>Aside0 (EI w0 D p mb n vA vB f M E (failE a1 e1 BB y2 4).1 (failE a1 e1 BB y2 4).2 vM vE h x0 (V++[y0]) N vV vN s.1 vN m1 m2 (i + 1) (i + 1) S2 T2 w')∧Aside0 (w'.heap[s.2.2]?=some (.cells #[.int .i64 y1] 2 (0,0)))) ?_ ?_
      rotate_left
      ·intro hCont
       refine two_ (i:=4) (j:=10) (Ni:=some 65) (Nj:=some 71) #[true,true,true,true,true,false,true,true,true,true,false,false,false,false,false,false] #[true,true,true,true,false,false,true,true,true,true,true,false,false,false,false,false] rfl rfl rfl rfl J0 J11 J11 (fun K hK=>?_) (fun K hK=>?_)
       ·skip
        refine value_ (w1:=?_) (v:=?_) J19 rfl ?_ ?_
        rotate_left 2
        ·go_simp
         constructor
         ·rfl
         ·rfl
        have HE_4:=Y0 (HE.out.alloc (.cells #[.string y0] 9 (0,0)))
        have HB4_4:=Y0 (blk_new WD (.cells #[.string y0] 9 (0,0)))
        have HX_4:=Y0 (blk_alloc HX.out (.cells #[.string y0] 9 (0,0)))
        generalize WD.alloc (.cells #[.string y0] 9 (0,0))=V_4 at *
        obtain ⟨b4,hb4⟩:∃ b_,WD.heap.size=b_:=⟨_,rfl⟩
        rw [hb4] at HB4_4 ⊢
        clear hb4
        refine hK.out _ _ ⟨(HE_4.out.c1),(HE_4.out.c2),(blk_cell HX_4.out 0),(blk_cell HX_4.out 1)⟩ (fun hHeld=>?_)
        clear hK K
        refine norm_ (a':=?_) ?_ ?_;rotate_left;show Act.put _ (some 65) _=_;simp only [Act.put,Y14,Y15,Y16,i64_w];rfl
        refine two_ (i:=5) (j:=10) (Ni:=some 66) (Nj:=some 71) #[true,true,true,true,true,true,true,true,true,true,false,false,false,false,false,false] #[true,true,true,true,true,false,true,true,true,true,true,false,false,false,false,false] rfl rfl rfl rfl J0 J11 J11 (fun K hK=>?_) (fun K hK=>?_)
        ·skip
         refine Kd.R_append_rows_step Kd.string (w0:=V_4) D J19 (.tmp 62) (.tmp 65) 31 9 (.string ⟨#[]⟩) 16 rfl Tryz.underlying31 info9 rfl J11 J11 vV V [y0] (some ⟨b4,0,none⟩) 1 1 (fun _=>True) (fun _=>False) rfl rfl HE_4.out.rV (row_one (R:=fun x cs=>cs=[Value.string x]) HB4_4.out rfl rfl) (fun _ _ h=>h) (fun _ hk=>hk.elim) (fun _ _=>trivial) (Below.refl _ _) HE_4.out.dle HLV.out ?_
         intro v1 V_4_5 hR1 _ hg1 _
         have HE_4_5:=Y0 (HE_4.out.appV hR1 hg1)
         have HX_4_5:=Y0 (blk_grow HE_4.out.rV HX_4.out J11 hg1)
         clear hR1 hg1
         refine hK.out _ _ ⟨(HE_4_5.out.c1),(HE_4_5.out.c2),(blk_cell HX_4_5.out 0),(blk_cell HX_4_5.out 1)⟩ (fun hHeld=>?_)
         clear hK K
         refine norm_ (a':=?_) ?_ ?_;rotate_left;show Act.put _ (some 66) _=_;simp only [Act.put,Y14,Y15,Y16,i64_w];rfl
         refine pure_ (i:=12) (N:=some 73) (v:=?_) (a':=?_) (sqB 16 5119) rfl rfl J0 (fun _ _ _ h=>h) (Or.inl ⟨J19,?_⟩) ?_ ?_;rotate_left;intro w';go_simp;with_reducible rfl;rotate_left;simp only [Act.put,Y14,Y15,Y16,i64_w];rfl
         refine one_ (i:=10) (N:=some 71) (sqB 16 6143) rfl rfl J0 J11 (fun K hK=>?_)
         refine value_ (w1:=?_) (v:=?_) J19 rfl ?_ ?_
         rotate_left 2
         ·go_simp
          constructor
          ·rfl
          ·rfl
         have HE_4_5_10:=Y0 (HE_4_5.out.alloc (.cells #[.int .i64 y1] 2 (0,0)))
         have HB10_4_5_10:=Y0 (blk_new V_4_5 (.cells #[.int .i64 y1] 2 (0,0)))
         have HX_4_5_10:=Y0 (blk_alloc HX_4_5.out (.cells #[.int .i64 y1] 2 (0,0)))
         generalize V_4_5.alloc (.cells #[.int .i64 y1] 2 (0,0))=V_4_5_10 at *
         obtain ⟨b10,hb10⟩:∃ b_,V_4_5.heap.size=b_:=⟨_,rfl⟩
         rw [hb10] at HB10_4_5_10 ⊢
         clear hb10
         refine hK.out _ _ ⟨(HE_4_5_10.out.c1),(HE_4_5_10.out.c2),(blk_cell HX_4_5_10.out 0),(blk_cell HX_4_5_10.out 1)⟩ (fun hHeld=>?_)
         clear hK K
         refine norm_ (a':=?_) ?_ ?_;rotate_left;show Act.put _ (some 71) _=_;simp only [Act.put,Y14,Y15,Y16,i64_w];rfl
         exact norm_ J74 (hCont (v1,b4,b10) _ ⟨HE_4_5_10,HB10_4_5_10⟩)
        ·skip
         refine value_ (w1:=?_) (v:=?_) J19 rfl ?_ ?_
         rotate_left 2
         ·go_simp
          constructor
          ·rfl
          ·rfl
         have HE_4_10:=Y0 (HE_4.out.alloc (.cells #[.int .i64 y1] 2 (0,0)))
         have HB10_4_10:=Y0 (blk_new V_4 (.cells #[.int .i64 y1] 2 (0,0)))
         have HB4_4_10:=Y0 (blk_alloc HB4_4.out (.cells #[.int .i64 y1] 2 (0,0)))
         have HX_4_10:=Y0 (blk_alloc HX_4.out (.cells #[.int .i64 y1] 2 (0,0)))
         generalize V_4.alloc (.cells #[.int .i64 y1] 2 (0,0))=V_4_10 at *
         obtain ⟨b10,hb10⟩:∃ b_,V_4.heap.size=b_:=⟨_,rfl⟩
         rw [hb10] at HB10_4_10 ⊢
         clear hb10
         refine hK.out _ _ ⟨(HE_4_10.out.c1),(HE_4_10.out.c2),(blk_cell HX_4_10.out 0),(blk_cell HX_4_10.out 1)⟩ (fun hHeld=>?_)
         clear hK K
         refine norm_ (a':=?_) ?_ ?_;rotate_left;show Act.put _ (some 71) _=_;simp only [Act.put,Y14,Y15,Y16,i64_w];rfl
         refine one_ (i:=5) (N:=some 66) (sqB 16 2047) rfl rfl J0 J11 (fun K hK=>?_)
         refine Kd.R_append_rows_step Kd.string (w0:=V_4_10) D J19 (.tmp 62) (.tmp 65) 31 9 (.string ⟨#[]⟩) 16 rfl Tryz.underlying31 info9 rfl J11 J11 vV V [y0] (some ⟨b4,0,none⟩) 1 1 (fun _=>True) (fun _=>False) rfl rfl HE_4_10.out.rV (row_one (R:=fun x cs=>cs=[Value.string x]) HB4_4_10.out rfl rfl) (fun _ _ h=>h) (fun _ hk=>hk.elim) (fun _ _=>trivial) (Below.refl _ _) HE_4_10.out.dle HLV.out ?_
         intro v1 V_4_10_5 hR1 _ hg1 _
         have HE_4_10_5:=Y0 (HE_4_10.out.appV hR1 hg1)
         have HB10_4_10_5:=Y0 (blk_grow HE_4_10.out.rV HB10_4_10.out J11 hg1)
         have HX_4_10_5:=Y0 (blk_grow HE_4_10.out.rV HX_4_10.out J11 hg1)
         clear hR1 hg1
         refine hK.out _ _ ⟨(HE_4_10_5.out.c1),(HE_4_10_5.out.c2),(blk_cell HX_4_10_5.out 0),(blk_cell HX_4_10_5.out 1)⟩ (fun hHeld=>?_)
         clear hK K
         refine norm_ (a':=?_) ?_ ?_;rotate_left;show Act.put _ (some 66) _=_;simp only [Act.put,Y14,Y15,Y16,i64_w];rfl
         refine pure_ (i:=12) (N:=some 73) (v:=?_) (a':=?_) (sqB 16 6143) rfl rfl J0 (fun _ _ _ h=>h) (Or.inl ⟨J19,?_⟩) ?_ ?_;rotate_left;intro w';go_simp;with_reducible rfl;rotate_left;simp only [Act.put,Y14,Y15,Y16,i64_w];rfl
         exact norm_ J74 (hCont (v1,b4,b10) _ ⟨HE_4_10_5,HB10_4_10_5⟩)
       ·skip
        refine value_ (w1:=?_) (v:=?_) J19 rfl ?_ ?_
        rotate_left 2
        ·go_simp
         constructor
         ·rfl
         ·rfl
        have HE_10:=Y0 (HE.out.alloc (.cells #[.int .i64 y1] 2 (0,0)))
        have HB10_10:=Y0 (blk_new WD (.cells #[.int .i64 y1] 2 (0,0)))
        have HX_10:=Y0 (blk_alloc HX.out (.cells #[.int .i64 y1] 2 (0,0)))
        generalize WD.alloc (.cells #[.int .i64 y1] 2 (0,0))=V_10 at *
        obtain ⟨b10,hb10⟩:∃ b_,WD.heap.size=b_:=⟨_,rfl⟩
        rw [hb10] at HB10_10 ⊢
        clear hb10
        refine hK.out _ _ ⟨(HE_10.out.c1),(HE_10.out.c2),(blk_cell HX_10.out 0),(blk_cell HX_10.out 1)⟩ (fun hHeld=>?_)
        clear hK K
        refine norm_ (a':=?_) ?_ ?_;rotate_left;show Act.put _ (some 71) _=_;simp only [Act.put,Y14,Y15,Y16,i64_w];rfl
        refine one_ (i:=4) (N:=some 65) (sqB 16 2015) rfl rfl J0 J11 (fun K hK=>?_)
        refine value_ (w1:=?_) (v:=?_) J19 rfl ?_ ?_
        rotate_left 2
        ·go_simp
         constructor
         ·rfl
         ·rfl
        have HE_10_4:=Y0 (HE_10.out.alloc (.cells #[.string y0] 9 (0,0)))
        have HB4_10_4:=Y0 (blk_new V_10 (.cells #[.string y0] 9 (0,0)))
        have HB10_10_4:=Y0 (blk_alloc HB10_10.out (.cells #[.string y0] 9 (0,0)))
        have HX_10_4:=Y0 (blk_alloc HX_10.out (.cells #[.string y0] 9 (0,0)))
        generalize V_10.alloc (.cells #[.string y0] 9 (0,0))=V_10_4 at *
        obtain ⟨b4,hb4⟩:∃ b_,V_10.heap.size=b_:=⟨_,rfl⟩
        rw [hb4] at HB4_10_4 ⊢
        clear hb4
        refine hK.out _ _ ⟨(HE_10_4.out.c1),(HE_10_4.out.c2),(blk_cell HX_10_4.out 0),(blk_cell HX_10_4.out 1)⟩ (fun hHeld=>?_)
        clear hK K
        refine norm_ (a':=?_) ?_ ?_;rotate_left;show Act.put _ (some 65) _=_;simp only [Act.put,Y14,Y15,Y16,i64_w];rfl
        refine one_ (i:=5) (N:=some 66) (sqB 16 2047) rfl rfl J0 J11 (fun K hK=>?_)
        refine Kd.R_append_rows_step Kd.string (w0:=V_10_4) D J19 (.tmp 62) (.tmp 65) 31 9 (.string ⟨#[]⟩) 16 rfl Tryz.underlying31 info9 rfl J11 J11 vV V [y0] (some ⟨b4,0,none⟩) 1 1 (fun _=>True) (fun _=>False) rfl rfl HE_10_4.out.rV (row_one (R:=fun x cs=>cs=[Value.string x]) HB4_10_4.out rfl rfl) (fun _ _ h=>h) (fun _ hk=>hk.elim) (fun _ _=>trivial) (Below.refl _ _) HE_10_4.out.dle HLV.out ?_
        intro v1 V_10_4_5 hR1 _ hg1 _
        have HE_10_4_5:=Y0 (HE_10_4.out.appV hR1 hg1)
        have HB10_10_4_5:=Y0 (blk_grow HE_10_4.out.rV HB10_10_4.out J11 hg1)
        have HX_10_4_5:=Y0 (blk_grow HE_10_4.out.rV HX_10_4.out J11 hg1)
        clear hR1 hg1
        refine hK.out _ _ ⟨(HE_10_4_5.out.c1),(HE_10_4_5.out.c2),(blk_cell HX_10_4_5.out 0),(blk_cell HX_10_4_5.out 1)⟩ (fun hHeld=>?_)
        clear hK K
        refine norm_ (a':=?_) ?_ ?_;rotate_left;show Act.put _ (some 66) _=_;simp only [Act.put,Y14,Y15,Y16,i64_w];rfl
        refine pure_ (i:=12) (N:=some 73) (v:=?_) (a':=?_) (sqB 16 6143) rfl rfl J0 (fun _ _ _ h=>h) (Or.inl ⟨J19,?_⟩) ?_ ?_;rotate_left;intro w';go_simp;with_reducible rfl;rotate_left;simp only [Act.put,Y14,Y15,Y16,i64_w];rfl
        exact norm_ J74 (hCont (v1,b4,b10) _ ⟨HE_10_4_5,HB10_10_4_5⟩)
      rintro ⟨v1,b4,b10⟩ w' ⟨HE5,HB10⟩
      obtain ⟨A5,c5,hv1⟩:=Kd.R_slice HE5.out.rV
      have hw1:v1 = .slice A5 (V.length + 1) c5:=by rw [show v1=_ from hv1,List.length_append];rfl
      clear hv1
      subst hw1
      refine norm_ (a':=?_) ?_ ?_
      rotate_left
      ·simp only [putAll,Act.put,List.setIfInBounds_toArray,List.set_cons_zero,List.set_cons_succ]
       rfl
      refine last_ (i:=11) (N:=some 72) (sqB 16 8191) rfl rfl J0 J11 (fun K hK=>?_)
      refine Kd.R_append_rows_step (Kd.int .i64) (w0:=w') D J19 (.tmp 68) (.tmp 71) 32 2 (.int .i64 0) 8 rfl Tryz.underlying32 info2 rfl J11 J11 vN N [y1] (some ⟨b10,0,none⟩) 1 1 (fun _=>True) (fun _=>False) rfl rfl HE5.out.rN (row_one (R:=fun x cs=>cs=[Value.int .i64 x]) HB10.out rfl rfl) (fun _ _ h=>h) (fun _ hk=>hk.elim) (fun _ _=>trivial) (Below.refl _ _) HE5.out.dle HLN.out ?_
      intro v2 V11 hR2 _ hg2 _
      obtain ⟨A6,c6,hv2⟩:=Kd.R_slice hR2
      have hw2:v2 = .slice A6 (N.length + 1) c6:=by rw [hv2,List.length_append];rfl
      clear hv2
      subst hw2
      have HE11:=Y0 (HE5.out.appN hR2 hg2)
      have g1:=blk_frozen HE11.out.blk 1
      have g2:∀ u,(V11.setCell ⟨h,1,none⟩ u).frozen? ⟨h,2,none⟩=false:=fun u=>blk_frozen (blk_set HE11.out.blk 1 u) 2
      have g3:=HE11.out.c1
      have g4:∀ u,(V11.setCell ⟨h,1,none⟩ u).cell? ⟨h,2,none⟩=some vN:=fun u=>(blk_cell (blk_set HE11.out.blk 1 u) 2).trans rfl
      clear hR2 hg2
      refine hK.out _ _ ?_
      clear hK K
      refine norm_ (a':=?_) ?_ ?_;rotate_left;show Act.put _ (some 72) _=_;simp only [Act.put,Y14,Y15,Y16,i64_w];rfl
      refine last_ (i:=13) (N:=none) (sqB 16 16383) rfl rfl J0 J11 (fun K hK=>?_)
      refine skip_ (w1:=?_) J19 rfl ?_ ?_
      rotate_left
      ·go_simp
       rfl
      refine hK.out _ _ ?_
      clear hK K
      refine pure_ (i:=14) (N:=some 74) (v:=?_) (a':=?_) (sqB 16 32767) rfl rfl J0 (fun _ _ _ h=>h) (Or.inl ⟨J19,?_⟩) ?_ ?_;rotate_left;intro w';go_simp;with_reducible rfl;rotate_left;simp only [Act.put,Y14,Y15,Y16,i64_w];rfl
      refine last_ (i:=15) (N:=none) (sqB 16 65535) rfl rfl J0 J11 (fun K hK=>?_)
      refine skip_ (w1:=?_) J19 rfl ?_ ?_
      rotate_left
      ·go_simp
       rfl
      refine hK.out _ _ ?_
      clear hK K
      refine done_ J0 ?_
      have HE12:=Y0 (EI.set12 (u:=.slice A5 (V.length + 1) c5) (v:=.slice A6 (N.length + 1) c6) HE11.out)
      clear HE11 HE5 HB10 HE HX g1 g2 g3 g4 z0 z1
      generalize (V11.setCell ⟨h,1,none⟩ (.slice A5 (V.length + 1) c5)).setCell ⟨h,2,none⟩ (.slice A6 (N.length + 1) c6)=V12 at *
      go_wp2_with fail
      go_roundg k1
      case measure=>omega
      case rel=>exact ⟨i + 1,_,_,S2,T2,_,_,J112,⟨J69⟩,⟨by rw [HTV.out,HTN.out];exact HE12.out⟩,HR2⟩
  ·have hil:i=l.length:=by have:=HL.out;omega
   subst hil
   rw [List.take_length] at HE
   have hr2:=HR.out
   rw [List.drop_length,enL] at hr2
   subst hr2
   go_wp2_with fail
   obtain ⟨V,hV⟩:∃ V,V=l.map (·.f0):=⟨_,rfl⟩
   obtain ⟨N,hN⟩:∃ N,N=l.map (·.f1):=⟨_,rfl⟩
   rw [← hV,← hN] at HE
   have HVV:=Y0 hV
   have HNN:=Y0 hN
   clear hV hN
   obtain ⟨AV,cV,rfl⟩:=Kd.R_slice HE.out.rV
   obtain ⟨AN,cN,rfl⟩:=Kd.R_slice HE.out.rN
   have hp1:wr.cell? ⟨p,4,none⟩=some vE:=(blk_cell HE.out.rs.blk 4).trans rfl
   have y0:wr.cell? ⟨h,0,none⟩=some (.string x0):=(blk_cell HE.out.blk 0).trans rfl
   have y1:=HE.out.c1
   have y2:=HE.out.c2
   have HS:=Y0 ((HE.out.rs.wide (ok':=fun _=>True) (fun _ _=>trivial)).below (Below.refl _ wr).drew)
   have HB:=Y0 HE.out.bw.drew
   have HS1:Aside0 (w0.heap.size≤wr.drew.heap.size):=⟨Nat.le_trans HE.out.hd HE.out.dle⟩
   have HMM:Aside0 (k119.M wr.drew w0.heap.size (fun k=>D≤k) (⟨x0,V,N⟩:S119) [.string x0,.slice AV V.length cV,.slice AN N.length cN]):=⟨k119_mkM _ _ _ _ (Kd.R_lower (Kd.R_mono (Kd.R_bound (Kd.R_drew HE.out.rV)) (fun k hk=>hk.2.1)) HE.out.hd) (Kd.R_lower (Kd.R_mono (Kd.R_bound (Kd.R_drew HE.out.rN)) (fun k hk=>hk.2.1)) HE.out.hd)⟩
   have HOK:Aside0 (∀ k,D≤k→True∧some k≠vE.ownBlock):=⟨fun k hk=>⟨trivial,fun he=>by have:=HE.out.rs.rE.1 k he.symm;omega⟩⟩
   replace HEL:Aside0 ((E.length + 1) * 64≤140737488355328):=⟨by have:=HEL.out;omega⟩
   clear HE HR HL HC HW HZ HLL
   refine start_ (n:=13) (S:=fun w'=>w'.cell? ⟨p,4,none⟩=some vE∧w'.cell? ⟨h,0,none⟩=some (.string x0)∧w'.cell? ⟨h,1,none⟩=some (.slice AV V.length cV)∧w'.cell? ⟨h,2,none⟩=some (.slice AN N.length cN)) (ds:=[8,12]) #[false,false,false,false,false,false,false,false,false,false,false,false,false] J0 rfl rfl ⟨hp1,y0,y1,y2⟩ (fun hHeld=>?_)
   generalize wr.drew=WD at *
   refine pure_ (i:=0) (N:=some 76) (v:=?_) (a':=?_) (sqB 13 1) rfl rfl J0 (fun _ _ _ h=>h) (Or.inl ⟨J19,?_⟩) ?_ ?_;rotate_left;intro w';go_simp;with_reducible rfl;rotate_left;simp only [Act.put,Y14,Y15,Y16,i64_w];rfl
   refine pure_ (i:=1) (N:=some 77) (v:=?_) (a':=?_) (sqB 13 3) rfl rfl J0 (fun _ _ _ h=>h) (Or.inl ⟨J19,?_⟩) ?_ ?_;rotate_left;intro w';go_simp;with_reducible rfl;rotate_left;simp only [Act.put,Y14,Y15,Y16,i64_w];rfl
   refine pure_ (i:=2) (N:=some 78) (v:=?_) (a':=?_) (sqB 13 7) rfl rfl J0 (fun _ _ _ h=>h) (Or.inl ⟨J19,?_⟩) ?_ ?_;rotate_left;intro w';go_simp;with_reducible rfl;rotate_left;simp only [Act.put,Y14,Y15,Y16,i64_w];rfl
   refine pure_ (i:=3) (N:=some 79) (v:=?_) (a':=?_) (sqB 13 15) rfl rfl J0 (fun _ _ _ h=>h) (Or.inl ⟨J19,?_⟩) ?_ ?_;rotate_left;intro w';go_simp;with_reducible rfl;rotate_left;simp only [Act.put,Y14,Y15,Y16,i64_w];rfl
   refine pure_ (i:=4) (N:=some 80) (v:=?_) (a':=?_) (sqB 13 31) rfl rfl J0 (fun _ _ _ h=>h) (Or.inl ⟨J19,?_⟩) ?_ ?_;rotate_left;intro w';go_simp;with_reducible rfl;rotate_left;simp only [Act.put,Y14,Y15,Y16,i64_w];rfl
   refine take_ (i:=5) (N:=some 81) (v:=?_) (a':=?_) (sqB 13 63) rfl rfl J0 (fun _ _ _ h=>h) (Or.inl ⟨J19,?_⟩) hHeld ?_ ?_;rotate_left;rintro w' ⟨s0,s1,s2,s3⟩;go_simp;with_reducible rfl;rotate_left;simp only [Act.put,Y14,Y15,Y16,i64_w];rfl
   refine take_ (i:=6) (N:=some 82) (v:=?_) (a':=?_) (sqB 13 127) rfl rfl J0 (fun _ _ _ h=>h) (Or.inl ⟨J19,?_⟩) hHeld ?_ ?_;rotate_left;rintro w' ⟨s0,s1,s2,s3⟩;go_simp;with_reducible rfl;rotate_left;simp only [Act.put,Y14,Y15,Y16,i64_w];rfl
   refine one_ (i:=7) (N:=some 83) (sqB 13 255) rfl rfl J0 J11 (fun K hK=>?_)
   refine value_ (w1:=?_) (v:=?_) J19 rfl ?_ ?_
   rotate_left 2
   ·go_simp
    constructor
    ·rfl
    ·rfl
   refine hK.out _ _ ⟨(pw_cell_below (below_alloc (Below.refl _ _) _) hHeld.1),(pw_cell_below (below_alloc (Below.refl _ _) _) hHeld.2.1),(pw_cell_below (below_alloc (Below.refl _ _) _) hHeld.2.2.1),(pw_cell_below (below_alloc (Below.refl _ _) _) hHeld.2.2.2)⟩ (fun hHeld=>?_)
   clear hK K
   refine norm_ (a':=?_) ?_ ?_;rotate_left;show Act.put _ (some 83) _=_;simp only [Act.put,Y14,Y15,Y16,i64_w];rfl
   refine last_ (i:=8) (N:=some 84) (sqB 13 511) rfl rfl J0 J11 (fun K hK=>?_)
   refine Kd.R_append_step k119 (w0:=WD) w0.heap.size J19 (.tmp 81) (.tmp 83) 44 119 (.agg #[(.string ⟨#[]⟩),(.slice none 0 0),(.slice none 0 0)]) 64 rfl Tryz.underlying44 info_ED rfl J11 J11 _ E ⟨x0,V,N⟩ [.string x0,.slice AV V.length cV,.slice AN N.length cN] (fun _=>True) (fun k=>D≤k) rfl rfl HMM.out HOK.out (fun _ _=>trivial) HS.out.rE (Below.refl _ _) HS1.out HEL.out ?_
   intro v1 w1 hR1 _ hg1 _
   obtain ⟨A5,c5,hv1⟩:=Kd.R_slice hR1
   have hw1:v1 = .slice A5 (E.length + 1) c5:=by rw [hv1,List.length_append];rfl
   clear hv1
   subst hw1
   have HR1:=Y0 hR1
   have HG1:=Y0 hg1
   clear hR1 hg1
   have hf1:=blk_frozen (blk_grow HS.out.rE HS.out.blk J11 HG1.out) 4
   have hk1:=(blk_cell (blk_grow HS.out.rE HS.out.blk J11 HG1.out) 4).trans rfl
   refine hK.out _ _ ?_
   clear hK K
   refine norm_ (a':=?_) ?_ ?_;rotate_left;show Act.put _ (some 84) _=_;simp only [Act.put,Y14,Y15,Y16,i64_w];rfl
   refine pure_ (i:=9) (N:=some 85) (v:=?_) (a':=?_) (sqB 13 1023) rfl rfl J0 (fun _ _ _ h=>h) (Or.inl ⟨J19,?_⟩) ?_ ?_;rotate_left;intro w';go_simp;with_reducible rfl;rotate_left;simp only [Act.put,Y14,Y15,Y16,i64_w];rfl
   refine pure_ (i:=10) (N:=some 86) (v:=?_) (a':=?_) (sqB 13 2047) rfl rfl J0 (fun _ _ _ h=>h) (Or.inl ⟨J19,?_⟩) ?_ ?_;rotate_left;intro w';go_simp;with_reducible rfl;rotate_left;simp only [Act.put,Y14,Y15,Y16,i64_w];rfl
   refine pure_ (i:=11) (N:=some 87) (v:=?_) (a':=?_) (sqB 13 4095) rfl rfl J0 (fun _ _ _ h=>h) (Or.inl ⟨J19,?_⟩) ?_ ?_;rotate_left;intro w';go_simp;with_reducible rfl;rotate_left;simp only [Act.put,Y14,Y15,Y16,i64_w];rfl
   refine last_ (i:=12) (N:=none) (sqB 13 8191) rfl rfl J0 J11 (fun K hK=>?_)
   refine skip_ (w1:=?_) J19 rfl ?_ ?_
   rotate_left
   ·go_simp
    rfl
   refine hK.out _ _ ?_
   clear hK K
   refine done_ J0 ?_
   go_wp2_with fail
   go_end0
   exact ⟨rfl,⟨_,by rw [← HVV.out,← HNN.out];exact HS.out.appE HR1.out HG1.out⟩,(HB.out.trans (grown_below HS.out.rE HG1.out HS1.out)).setCell (p:=⟨p,4,none⟩) HS.out.hp _⟩
structure MI (w0:World) (D p mb n:Nat) (vA vB:Value) (f:List UInt8→Option (Int × Int)) (M:List (S57)) (E:List (S119)) (a e:Int) (vM vE:Value) (h:Nat) (nm:ByteArray) (F:List (S51)) (cF vF:Value) (m1 m2 k1 k2:Nat) (S:List UInt8→Option Bool) (T:Int→Option Bool) (bx:Array Value) (W:World):Prop where
 rs:RS w0.heap.size (fun k=>k < D) W p mb n vA vB f M E a e vM vE
 blk:W.heap[h]?=some (.cells #[.string nm,cF] 57 (0,0))
 rF:k51.R 51 W D (fun _=>True) vF F
 ss:SSet W m1 k1 S
 is:ISet W m2 k2 T
 bx:W.heap[D]?=some (.cells bx 34 (0,0))
 bw:Below w0.heap.size w0 W
 dle:D≤W.heap.size
 hd:w0.heap.size≤D
 hh:D≤h
 h1:D≤m1
 h2:D≤m2
 h12:m1≠m2
 hmb:mb < D
section
variable {w0:World} {D p mb n:Nat} {vA vB:Value} {f:List UInt8→Option (Int × Int)} {M:List (S57)} {E:List (S119)} {a e:Int} {vM vE:Value} {h:Nat} {nm:ByteArray} {F:List (S51)} {cF vF:Value} {m1 m2 k1 k2:Nat} {S:List UInt8→Option Bool} {T:Int→Option Bool} {bx:Array Value} {W W':World}
theorem MI.below (H:MI w0 D p mb n vA vB f M E a e vM vE h nm F cF vF m1 m2 k1 k2 S T bx W) (hb:Below W.heap.size W W'):MI w0 D p mb n vA vB f M E a e vM vE h nm F cF vF m1 m2 k1 k2 S T bx W' :=
 ⟨H.rs.below hb,blk_below H.blk hb,Kd.R_below H.rF hb,GM.below H.ss hb,GM.below H.is hb,blk_below H.bx hb,below_then H.bw (Nat.le_trans H.hd H.dle) hb,Nat.le_trans H.dle hb.size,H.hd,H.hh,H.h1,H.h2,H.h12,H.hmb⟩
theorem MI.alloc (H:MI w0 D p mb n vA vB f M E a e vM vE h nm F cF vF m1 m2 k1 k2 S T bx W) (o:Obj):MI w0 D p mb n vA vB f M E a e vM vE h nm F cF vF m1 m2 k1 k2 S T bx (W.alloc o):=H.below (below_alloc (Below.refl _ W) o)
theorem MI.drew (H:MI w0 D p mb n vA vB f M E a e vM vE h nm F cF vF m1 m2 k1 k2 S T bx W):MI w0 D p mb n vA vB f M E a e vM vE h nm F cF vF m1 m2 k1 k2 S T bx W.drew:=H.below (below_drew (Below.refl _ W))
theorem MI.drawn (H:MI w0 D p mb n vA vB f M E a e vM vE h nm F cF vF m1 m2 k1 k2 S T bx W) (hd:Drawn0 W W'):MI w0 D p mb n vA vB f M E a e vM vE h nm F cF vF m1 m2 k1 k2 S T bx W':=H.below hd.below
theorem MI.err {a' e':Int} (H:MI w0 D p mb n vA vB f M E a e vM vE h nm F cF vF m1 m2 k1 k2 S T bx W) (hr:RB W' p vA vB (.map (some mb)) vM vE a' e') (hk:KeepBut W W' p none) (hb:∀ B,B≤p→Below B W W'):MI w0 D p mb n vA vB f M E a' e' vM vE h nm F cF vF m1 m2 k1 k2 S T bx W' :=
 ⟨H.rs.err hr hk,hk.blk H.blk (blk_ne H.blk H.rs.blk J11) J53,R_keepP H.rF H.rs.blk J11 hk,gm_keep H.ss H.rs.blk hk,gm_keep H.is H.rs.blk hk,hk.blk H.bx (blk_ne H.bx H.rs.blk J11) J53,H.bw.trans (hb _ H.rs.hp),Nat.le_trans H.dle hk.1,H.hd,H.hh,H.h1,H.h2,H.h12,H.hmb⟩
theorem MI.putS (H:MI w0 D p mb n vA vB f M E a e vM vE h nm F cF vF m1 m2 k1 k2 S T bx W) {x:List UInt8} (hm:SSet W' m1 (k1 + 1) (setS S x)) (hg:W.grownBy W' (some m1)):MI w0 D p mb n vA vB f M E a e vM vE h nm F cF vF m1 m2 (k1 + 1) k2 (setS S x) T bx W' :=
 ⟨H.rs.put H.ss (by have:=H.h1;have:=H.hmb;omega) hg,blk_put_map H.blk H.ss hg,R_put_map H.rF H.ss hg,hm,gm_two H.is hg (fun e=>H.h12 e.symm),blk_put_map H.bx H.ss hg,H.bw.grown hg (Nat.le_trans H.hd H.dle) (fun k hk=>by injection hk with hk;have:=H.h1;have:=H.hd;omega),Nat.le_trans H.dle hg.size,H.hd,H.hh,H.h1,H.h2,H.h12,H.hmb⟩
theorem MI.putN (H:MI w0 D p mb n vA vB f M E a e vM vE h nm F cF vF m1 m2 k1 k2 S T bx W) {x:Int} (hm:ISet W' m2 (k2 + 1) (setN T x)) (hg:W.grownBy W' (some m2)):MI w0 D p mb n vA vB f M E a e vM vE h nm F cF vF m1 m2 k1 (k2 + 1) S (setN T x) bx W' :=
 ⟨H.rs.put H.is (by have:=H.h2;have:=H.hmb;omega) hg,blk_put_map H.blk H.is hg,R_put_map H.rF H.is hg,gm_two H.ss hg H.h12,hm,blk_put_map H.bx H.is hg,H.bw.grown hg (Nat.le_trans H.hd H.dle) (fun k hk=>by injection hk with hk;have:=H.h2;have:=H.hd;omega),Nat.le_trans H.dle hg.size,H.hd,H.hh,H.h1,H.h2,H.h12,H.hmb⟩
theorem MI.appF {v:Value} {l:List (S51)} (H:MI w0 D p mb n vA vB f M E a e vM vE h nm F cF vF m1 m2 k1 k2 S T bx W) (hR:k51.R 51 W' D (fun _=>True) v l) (hg:W.grownBy W' vF.ownBlock):MI w0 D p mb n vA vB f M E a e vM vE h nm l cF v m1 m2 k1 k2 S T bx W' :=
 ⟨H.rs.app H.rF J11 hg,blk_grow H.rF H.blk J11 hg,hR,gm_app H.ss H.rF hg,gm_app H.is H.rF hg,blk_grow H.rF H.bx J11 hg,H.bw.grown hg (Nat.le_trans H.hd H.dle) (fun k hk=>Nat.le_trans H.hd (Kd.R_base H.rF k hk)),Nat.le_trans H.dle hg.size,H.hd,H.hh,H.h1,H.h2,H.h12,H.hmb⟩
theorem MI.set1 {u:Value} (H:MI w0 D p mb n vA vB f M E a e vM vE h nm F cF vF m1 m2 k1 k2 S T bx W):MI w0 D p mb n vA vB f M E a e vM vE h nm F u vF m1 m2 k1 k2 S T bx (W.setCell ⟨h,1,none⟩ u):=by
 have b1:=blk_put (cs':=#[.string nm,u]) H.blk 1 u rfl
 have hw:w0.heap.size≤h:=Nat.le_trans H.hd H.hh
 exact ⟨H.rs.far H.blk J11 H.hh 1 u,b1,Kd.R_set H.rF H.blk J11 1 u,gm_set H.ss H.blk 1 u,gm_set H.is H.blk 1 u,blk_far H.bx (p:=⟨h,1,none⟩) (blk_ne H.bx H.blk J11) u,H.bw.setCell (p:=⟨h,1,none⟩) hw u,by simpa [World.setCell] using H.dle,H.hd,H.hh,H.h1,H.h2,H.h12,H.hmb⟩
theorem MI.c1 (H:MI w0 D p mb n vA vB f M E a e vM vE h nm F cF vF m1 m2 k1 k2 S T bx W):W.cell? ⟨h,1,none⟩=some cF:=(blk_cell H.blk 1).trans rfl
end
theorem MI.start {w0 W:World} {p mb n:Nat} {vA vB:Value} {f:List UInt8→Option (Int × Int)} {M:List (S57)} {E:List (S119)} {a e:Int} {vM vE:Value} (H:RS w0.heap.size (fun _=>True) W p mb n vA vB f M E a e vM vE) (hw:Below w0.heap.size w0 W) (bx:Array Value) (x0:ByteArray) :
  MI w0 W.heap.size p mb n vA vB f M E a e vM vE (W.heap.size + 1) x0 [] (.slice none 0 0) (.slice none 0 0) (W.heap.size + 2) (W.heap.size + 3) 0 0 (fun _=>none) (fun _=>none) bx ((((W.alloc (.cells bx 34 (0,0))).alloc (.cells #[.string x0,.slice none 0 0] 57 (0,0))).alloc (.map #[] 0)).alloc (.map #[] 0)):=by
 have bb:=below_alloc (below_alloc (below_alloc (below_alloc (Below.refl _ W) (.cells bx 34 (0,0))) (.cells #[.string x0,.slice none 0 0] 57 (0,0))) (.map #[] 0)) (.map #[] 0)
 have b1:=blk_new W (.cells bx 34 (0,0))
 have e1:(W.alloc (.cells bx 34 (0,0))).heap.size=W.heap.size + 1:=World.size_alloc _ _
 generalize W.alloc (.cells bx 34 (0,0))=U at *
 have e2:(U.alloc (.cells #[.string x0,.slice none 0 0] 57 (0,0))).heap.size=W.heap.size + 2:=by rw [World.size_alloc,e1]
 have e3:((U.alloc (.cells #[.string x0,.slice none 0 0] 57 (0,0))).alloc (.map #[] 0)).heap.size=W.heap.size + 3:=by rw [World.size_alloc,e2]
 have b2:=blk_new U (.cells #[.string x0,.slice none 0 0] 57 (0,0))
 have s3:SSet _ _ 0 (fun _=>none):=GM.made (U.alloc (.cells #[.string x0,.slice none 0 0] 57 (0,0)))
 have i4:ISet _ _ 0 (fun _=>none):=GM.made ((U.alloc (.cells #[.string x0,.slice none 0 0] 57 (0,0))).alloc (.map #[] 0))
 rw [e1] at b2
 rw [e2] at s3
 rw [e3] at i4
 exact ⟨H.old.below bb,blk_alloc (blk_alloc b2 _) _,Kd.R_nil _ _ _ _ _,GM.below s3 (below_alloc (Below.refl _ _) _),i4,blk_alloc (blk_alloc (blk_alloc b1 _) _) _,below_then hw hw.size bb,bb.size,hw.size,J7,J7,J7,J7,GM.lt H.nm⟩
end Go.Proofs.YtddpjjhekhompaaGreatDoor.P
namespace Go.Proofs
open Go.Shelf
def Tryz.sortFd_ren:Go.Shelf.Ren:=⟨fun|6=>101|15=>139|14=>138|28=>170|29=>171|20=>162|21=>163|22=>164|23=>165|24=>166|25=>167|26=>168|27=>169|46=>189|47=>190|48=>191|49=>192|50=>193|57=>206|n=>n,fun|22=>55|24=>51|25=>177|3=>3|39=>198|0=>0|53=>215|55=>218|4=>4|46=>229|45=>228|50=>58|5=>5|9=>9|66=>251|70=>255|76=>262|77=>263|n=>n,fun|n=>n⟩
theorem Tryz.sortFd:Go.Proofs.SlLaysF0.n6 Tryz.prog Tryz.sortFd_ren:={
 mixed:=by kernel_rfl
 f6:=⟨Tryz.f101.name,J11,Tryz.func101.trans (congrArg some J0)⟩
 f14:=⟨Tryz.f138.name,J11,Tryz.func138.trans (congrArg some J0)⟩
 f15:=Tryz.func139.trans (congrArg some J0)
 f20:=⟨Tryz.f162.name,J11,Tryz.func162.trans (congrArg some J0)⟩
 f21:=⟨Tryz.f163.name,J11,Tryz.func163.trans (congrArg some J0)⟩
 f22:=⟨Tryz.f164.name,J11,Tryz.func164.trans (congrArg some J0)⟩
 f23:=⟨Tryz.f165.name,J11,Tryz.func165.trans (congrArg some J0)⟩
 f24:=⟨Tryz.f166.name,J11,Tryz.func166.trans (congrArg some J0)⟩
 f25:=⟨Tryz.f167.name,J11,Tryz.func167.trans (congrArg some J0)⟩
 f26:=⟨Tryz.f168.name,J11,Tryz.func168.trans (congrArg some J0)⟩
 f27:=⟨Tryz.f169.name,J11,Tryz.func169.trans (congrArg some J0)⟩
 f28:=Tryz.func170.trans (congrArg some J0)
 f29:=Tryz.func171.trans (congrArg some J0)
 f46:=⟨Tryz.f189.name,J11,Tryz.func189.trans (congrArg some J0)⟩
 f47:=Tryz.func190.trans (congrArg some J0)
 f48:=Tryz.func191.trans (congrArg some J0)
 f49:=⟨Tryz.f192.name,J11,Tryz.func192.trans (congrArg some J0)⟩
 f50:=⟨Tryz.f193.name,J11,Tryz.func193.trans (congrArg some J0)⟩
 f57:=⟨Tryz.f206.name,J11,Tryz.func206.trans (congrArg some J0)⟩
 t0:=Tryz.underlying0
 a0:=Tryz.isAgg0
 z0:=Tryz.sizeOf0
 v0:=Tryz.zeroValue0
 t3:=Tryz.underlying3
 a3:=Tryz.isAgg3
 z3:=Tryz.sizeOf3
 v3:=Tryz.zeroValue3
 t4:=Tryz.underlying4
 a4:=Tryz.isAgg4
 z4:=Tryz.sizeOf4
 v4:=Tryz.zeroValue4
 t5:=Tryz.underlying5
 a5:=Tryz.isAgg5
 z5:=Tryz.sizeOf5
 v5:=Tryz.zeroValue5
 t9:=Tryz.underlying9
 a9:=Tryz.isAgg9
 z9:=Tryz.sizeOf9
 v9:=Tryz.zeroValue9
 t22:=Tryz.underlying55
 a22:=Tryz.isAgg55
 z22:=Tryz.sizeOf55
 v22:=Tryz.zeroValue55
 t25:=Tryz.underlying177
 a25:=Tryz.isAgg177
 z25:=Tryz.sizeOf177
 v25:=Tryz.zeroValue177
 t39:=Tryz.underlying198
 a39:=Tryz.isAgg198
 z39:=Tryz.sizeOf198
 v39:=Tryz.zeroValue198
 t45:=Tryz.underlying228
 a45:=Tryz.isAgg228
 z45:=Tryz.sizeOf228
 v45:=Tryz.zeroValue228
 t46:=Tryz.underlying229
 a46:=Tryz.isAgg229
 z46:=Tryz.sizeOf229
 v46:=Tryz.zeroValue229
 t50:=Tryz.underlying58
 a50:=Tryz.isAgg58
 z50:=Tryz.sizeOf58
 v50:=Tryz.zeroValue58
 t53:=Tryz.underlying215
 a53:=Tryz.isAgg215
 z53:=Tryz.sizeOf215
 v53:=Tryz.zeroValue215
 t55:=Tryz.underlying218
 a55:=Tryz.isAgg218
 z55:=Tryz.sizeOf218
 v55:=Tryz.zeroValue218
 t66:=Tryz.underlying251
 a66:=Tryz.isAgg251
 z66:=Tryz.sizeOf251
 v66:=Tryz.zeroValue251
 t70:=Tryz.underlying255
 a70:=Tryz.isAgg255
 z70:=Tryz.sizeOf255
 v70:=Tryz.zeroValue255
 t76:=Tryz.underlying262
 a76:=Tryz.isAgg262
 z76:=Tryz.sizeOf262
 v76:=Tryz.zeroValue262
 t77:=Tryz.underlying263
 a77:=Tryz.isAgg263
 z77:=Tryz.sizeOf263
 v77:=Tryz.zeroValue263 }
def Tryz.cmpInt_ren:Go.Shelf.Ren:=⟨fun|5=>103|7=>140|n=>n,fun|22=>3|3=>3|4=>4|n=>n,fun|n=>n⟩
theorem Tryz.cmpInt:Go.Proofs.SlLaysC2.n5 Tryz.prog Tryz.cmpInt_ren:={
 mixed:=by kernel_rfl
 f5:=⟨Tryz.f103.name,J11,Tryz.func103.trans (congrArg some J0)⟩
 f7:=⟨Tryz.f140.name,J11,Tryz.func140.trans (congrArg some J0)⟩
 t3:=Tryz.underlying3
 a3:=Tryz.isAgg3
 z3:=Tryz.sizeOf3
 v3:=Tryz.zeroValue3
 t4:=Tryz.underlying4
 a4:=Tryz.isAgg4
 z4:=Tryz.sizeOf4
 v4:=Tryz.zeroValue4
 t22:=Tryz.underlying3
 a22:=Tryz.isAgg3
 z22:=Tryz.sizeOf3
 v22:=Tryz.zeroValue3 }
end Go.Proofs
namespace Go.Proofs.YtddpjjhekhompaaGreatDoor.P
open Go.RowKit Go.Proofs.YtddpjjhekhompaaGreatDoorW.PrintWords Go.Proofs.YtddpjjhekhompaaGreatDoorW.PrintLast Go.Proofs.YtddpjjhekhompaaGreatDoorW.PrintMore
attribute [local go_sem] max2_int max_two
set_option linter.unusedVariables false
set_option linter.unusedSimpArgs false
theorem fd_lt (x y:S51):ltOf fdCmp x y=decide (x.f0 < y.f0):=by
 unfold ltOf fdCmp Lib.compareInt
 by_cases h1:x.f0 < y.f0
 ·simp [h1]
 ·by_cases h2:y.f0 < x.f0 <;> simp [h1,h2]
theorem fd_swo:Go.Sort.SWO (ltOf fdCmp) where
 irrefl x:=by rw [fd_lt];simp
 trans x y z h1 h2:=by rw [fd_lt] at *;simp at *;omega
 ntrans x y z h1 h2:=by rw [fd_lt] at *;simp at *;omega
theorem fd_sorts (l:List (S51)):(fdSort l).Perm l∧(fdSort l).Pairwise (fun a b=>a.f0≤b.f0):=by
 have h:=Go.Sort.pdq_sorts (ltOf fdCmp) fd_swo l.toArray 0 l.toArray.size (Lib.bitLen l.toArray.size) true true (Nat.zero_le _) (Nat.le_refl _) (Or.inl rfl)
 unfold fdSort
 generalize Go.Sort.pdq (ltOf fdCmp) l.toArray 0 l.toArray.size (Lib.bitLen l.toArray.size) true true=d at *
 obtain ⟨⟨hs,_,hp⟩,ho⟩:=h
 have e1:d.extract 0 l.toArray.size=d:=by rw [← hs];simp
 have e2:l.toArray.extract 0 l.toArray.size=l.toArray:=by simp
 rw [e1,e2] at hp
 refine ⟨hp,List.pairwise_iff_getElem.2 fun i j hi hj hij=>?_⟩
 have h1:=ho i j (Nat.zero_le _) hij (by simpa [← hs] using hj)
 rw [fd_lt,decide_eq_false_iff_not] at h1
 have hi2:i < d.size:=by simpa using hi
 have hj2:j < d.size:=by simpa using hj
 rw [getElem!_pos d i hi2,getElem!_pos d j hj2] at h1
 simpa using h1
theorem fd_slen (l:List (S51)):(fdSort l).length=l.length:=(fd_sorts l).1.length_eq
set_option maxHeartbeats 2000000 in
set_option maxRecDepth 100000 in
theorem cmp_s (x y:S51) (W:World):Calls Tryz.prog 102 #[.agg (encF x).toArray,.agg (encF y).toArray] W fun e w'=>e = .returned (.int .i64 (fdCmp x y))∧∃ q os',w'=Go.Sort.grow (W.drewN q) os':=by
 have hcon:=fun W'=>AnyG.cmp_Compare_int Tryz.cmpInt x.f0 y.f0 W'
 change ∀ W',Calls Tryz.prog 103 _ _ _ at hcon
 unfold fdCmp
 generalize Lib.compareInt x.f0 y.f0=r at hcon ⊢
 unfold encF
 go_enter Tryz.func102,Tryz.ntmps102
 go_wp2_with (go_at_call 103;refine (hcon _).mono ?_;rintro e w' ⟨rfl,rfl⟩)
 go_ret
 exact ⟨rfl,0,_,by rw [Go.Sort.alloc_eq_grow,Go.Sort.alloc_eq_grow,Go.Sort.grow_grow];rfl⟩
theorem sort_s {W:World} {D:Nat} {v:Value} {xs:List (S51)} (h:k51.R 51 W D (fun _=>True) v xs) (hl:xs.length < 4611686018427387904) :
  Calls Tryz.prog 101 #[v,.func (.func 102) #[] #[]] W fun e W'=>e = .returned (.tuple #[])∧k51.R 51 W' D (fun _=>True) v (fdSort xs)∧W.grownBy W' v.ownBlock:=by
 rcases Nat.eq_zero_or_pos xs.length with h0|h0
 ·obtain rfl:=List.eq_nil_of_length_eq_zero h0
  have hn:fdSort []=[]:=List.eq_nil_of_length_eq_zero (by rw [fd_slen];rfl)
  obtain ⟨A,c,rfl⟩:=Kd.R_slice h
  have hc:=AnyF.slices_SortFunc_none Tryz.sortFd A c (.func (.func 102) #[] #[]) W
  change Calls Tryz.prog 101 _ _ _ at hc
  refine hc.mono ?_
  rintro e W' ⟨rfl,rfl⟩
  rw [hn]
  exact ⟨rfl,h,World.grownBy.refl _ _⟩
 ·obtain ⟨g,cap,rfl,hg,hH,hs⟩:=R_sort h h0
  have eg:∀ args w,(callFunc 102 args).run Tryz.prog w = .ok (.enter 102 args) w:=enters_of Tryz.func102 J0 rfl
  have hc:=AnyQ.slices_SortFunc_eq Tryz.sortFd 7 (fun w=>by kernel_rfl) (fun w=>by kernel_rfl) encF encF_len encF_one fdCmp fd_swo 102 #[] g 0 cap xs.toArray W eg (fun _ _ _ _ x y=>cmp_s x y _) hH hg (by simpa using hl)
  change Calls Tryz.prog 101 _ _ _ at hc
  have hsz:xs.toArray.size=xs.length:=by simp
  rw [hsz] at hc
  refine hc.mono ?_
  rintro e W' ⟨rfl,n,os,rfl⟩
  have h2:=hs n os (fdSort xs) (fd_slen xs)
  have e3:(fdSort xs).toArray=Go.Sort.pdq (ltOf fdCmp) xs.toArray 0 xs.length (Lib.bitLen xs.length) true true:=by unfold fdSort;simp
  rw [e3] at h2
  exact ⟨rfl,h2⟩
def pickR (k:Nat):Code→Option Code
 | .region m a b=>if m=k then some (.region m a b) else none
 | .seq a b=>match pickR k a with
  | some c=>some c
  | none=>pickR k b
 | .block _ c=>pickR k c
 | .scope c=>pickR k c
 | .loop c=>pickR k c
 | .cond _ a b=>match pickR k a with
  | some c=>some c
  | none=>pickR k b
 | _=>none
noncomputable def code17:Code:=(Tryz.f57.body.bind (pickR 17)).getD .skip
set_option maxHeartbeats 8000000 in
set_option maxRecDepth 1000000 in
theorem w17_1 {w0 wc:World} {D p mb n:Nat} {vA vB:Value} {f:List UInt8→Option (Int × Int)} {M:List (S57)} {E:List (S119)} {a1 e1:Int} {vM vE:Value} {h:Nat} {x0:ByteArray} {G:List (S51)} {vG:Value} {m1 m2 k1 k2:Nat} {S:List UInt8→Option Bool} {T:Int→Option Bool} {bx:Array Value} {vb:Nat} {y0 y1:ByteArray} {y2:Bool} {y3:Int} {y4:ByteArray} {y5 y6:Int} {O:List ByteArray} {AO:Option Addr} {cO:Nat} {TT:Bool} (HE:Aside0 (MI w0 D p mb n vA vB f M E a1 e1 vM vE h x0 G vG vG m1 m2 k1 k2 S T bx wc)) (HX:Aside0 (wc.heap[vb]?=some (.cells #[.string y0,.string y1,.bool y2,.int .i64 y3,.string y4,.int .i64 y5,.int .i64 y6] 36 (0,0)))) (HB2:Aside0 (bx[2]?=some (.slice AO O.length cO))) (HL1:Aside0 (∀ U:World,SSet U m1 k1 S→(Instr.lookup 169 (.map (some m1)) (.string y4) false).run Tryz.prog U = .ok (.bool true) U)) {K0 K1 K2 K3:Act→World→Prop} {POST:Ending→World→Prop} (v1 v2 v4 v7 v8 v9 v10 v11 v14 v15 v16 v17 v18 v19 v20 v21 v22 v23 v24 v25 v26 v27 v28 v29 v30 v31 v32 v33 v34 v35 v36 v37 v38 v39 v40 v41 v42 v43 v44 v45 v46 v47 v48 v49 v50 v51 v52 v53 v54 v55 v56 v57 v58 v59 v60 v61 v62 v63 v64 v65 v66 v67 v68 v69 v70 v71 v72 v105 v106 v107 v108 v109 v110 v111 v112 v113 v114 v115 v116 v117 v118 v119 v120 v121 v122 v123 v124 v125 v126 v127 v128 v129 v130 v131 v132 v133 v134 v135 v136 v137 v138 v139 v140 v141 v142 v143 v144 v145 v146 v147 v148 v149 v150 v151 v152 v153 v154 v155 v156 v157 v158 v159 v160 v161 v162 v163 v164 v165 v166 v167 v168 v169 v170 v171 v172 v173 v174 v175 v176 v177 v178 v179 v73 v74 v75 v76 v77 v78 v79 v80 v81 v82 v83 v84 v85 v86 v87 v88 v89 v90 v91 v92 v93 v94 v95 v96 v97 v98 v99 v100 v101 v102 v103 v104:Value)
  (hK:∀ (u73 u74 u75 u76 u77 u78 u79 u80 u81 u82 u83 u84 u85 u86 u87 u88 u89 u90 u91 u92 u93 u94 u95 u96 u97 u98 u99 u100 u101 u102 u103 u104:Value) (W':World),MI w0 D p mb n vA vB f M E (failE a1 e1 true y6 4).1 (failE a1 e1 true y6 4).2 vM vE h x0 G vG vG m1 m2 k1 k2 S T bx W'→W'.heap[vb]?=some (.cells #[.string y0,.string y1,.bool y2,.int .i64 y3,.string y4,.int .i64 y5,.int .i64 y6] 36 (0,0))→K0 ⟨#[.pointer (some ⟨p,0,none⟩),v1,v2,.pointer (some ⟨D,0,none⟩),v4,.map (some m1),.map (some m2),v7,v8,v9,v10,v11,.pointer (some ⟨vb,0,none⟩),.bool TT,v14,v15,v16,v17,v18,v19,v20,v21,v22,v23,v24,v25,v26,v27,v28,v29,v30,v31,v32,v33,v34,v35,v36,v37,v38,v39,v40,v41,v42,v43,v44,v45,v46,v47,v48,v49,v50,v51,v52,v53,v54,v55,v56,v57,v58,v59,v60,v61,v62,v63,v64,v65,v66,v67,v68,v69,v70,v71,v72,u73,u74,u75,u76,u77,u78,u79,u80,u81,u82,u83,u84,u85,u86,u87,u88,u89,u90,u91,u92,u93,u94,u95,u96,u97,u98,u99,u100,u101,u102,u103,u104,v105,v106,v107,v108,v109,v110,v111,v112,v113,v114,v115,v116,v117,v118,v119,v120,v121,v122,v123,v124,v125,v126,v127,v128,v129,v130,v131,v132,v133,v134,v135,v136,v137,v138,v139,v140,v141,v142,v143,v144,v145,v146,v147,v148,v149,v150,v151,v152,v153,v154,v155,v156,v157,v158,v159,v160,v161,v162,v163,v164,v165,v166,v167,v168,v169,v170,v171,v172,v173,v174,v175,v176,v177,v178,v179],[]⟩ W') :
  Code.wp Tryz.prog code17 (Exit.then K0 (Exit.inBlock 5 (Exit.then K1 (Exit.then K2 (Exit.inBlock 4 (Exit.then K3 (bodyPost Tryz.prog Tryz.f57 POST))))))) ⟨#[.pointer (some ⟨p,0,none⟩),v1,v2,.pointer (some ⟨D,0,none⟩),v4,.map (some m1),.map (some m2),v7,v8,v9,v10,v11,.pointer (some ⟨vb,0,none⟩),.bool TT,v14,v15,v16,v17,v18,v19,v20,v21,v22,v23,v24,v25,v26,v27,v28,v29,v30,v31,v32,v33,v34,v35,v36,v37,v38,v39,v40,v41,v42,v43,v44,v45,v46,v47,v48,v49,v50,v51,v52,v53,v54,v55,v56,v57,v58,v59,v60,v61,v62,v63,v64,v65,v66,v67,v68,v69,v70,v71,v72,v73,v74,v75,v76,v77,v78,v79,v80,v81,v82,v83,v84,v85,v86,v87,v88,v89,v90,v91,v92,v93,v94,v95,v96,v97,v98,v99,v100,v101,v102,v103,v104,v105,v106,v107,v108,v109,v110,v111,v112,v113,v114,v115,v116,v117,v118,v119,v120,v121,v122,v123,v124,v125,v126,v127,v128,v129,v130,v131,v132,v133,v134,v135,v136,v137,v138,v139,v140,v141,v142,v143,v144,v145,v146,v147,v148,v149,v150,v151,v152,v153,v154,v155,v156,v157,v158,v159,v160,v161,v162,v163,v164,v165,v166,v167,v168,v169,v170,v171,v172,v173,v174,v175,v176,v177,v178,v179],[]⟩ wc:=by
 conv=>arg 2;whnf
 have HE0:=Y0 HE.out.drew
 have HX0:=Y0 (blk_drew HX.out)
 refine start_ (n:=32) (S:=fun w'=>(Instr.lookup 169 (.map (some m1)) (.string y4) false).run Tryz.prog w' = .ok (.bool true) w'∧w'.cell? ⟨vb,4,none⟩=some (.string y4)∧w'.cell? ⟨vb,5,none⟩=some (.int .i64 y5)∧w'.cell? ⟨vb,3,none⟩=some (.int .i64 y3)∧w'.cell? ⟨vb,6,none⟩=some (.int .i64 y6)) (ds:=[31]) #[false,false,false,false,false,false,false,false,false,false,false,false,false,false,false,false,false,false,false,false,false,false,false,false,false,false,false,false,false,false,false,false] J0 rfl rfl ⟨(HL1.out _ HE0.out.ss),(blk_cell HX0.out 4),(blk_cell HX0.out 5),(blk_cell HX0.out 3),(blk_cell HX0.out 6)⟩ (fun hHeld=>?_)
 refine pure_ (i:=0) (N:=some 73) (v:=?_) (a':=?_) (sqB 32 1) rfl rfl J0 (fun _ _ _ h=>h) (Or.inl ⟨J19,?_⟩) ?_ ?_;rotate_left;intro w';go_simp;with_reducible rfl;rotate_left;simp only [Act.put,Y14,Y15,Y16,i64_w];rfl
 refine pure_ (i:=1) (N:=some 74) (v:=?_) (a':=?_) (sqB 32 3) rfl rfl J0 (fun _ _ _ h=>h) (Or.inl ⟨J19,?_⟩) ?_ ?_;rotate_left;intro w';go_simp;with_reducible rfl;rotate_left;simp only [Act.put,Y14,Y15,Y16,i64_w];rfl
 refine pure_ (i:=2) (N:=some 75) (v:=?_) (a':=?_) (sqB 32 7) rfl rfl J0 (fun _ _ _ h=>h) (Or.inl ⟨J19,?_⟩) ?_ ?_;rotate_left;intro w';go_simp;with_reducible rfl;rotate_left;simp only [Act.put,Y14,Y15,Y16,i64_w];rfl
 refine pure_ (i:=29) (N:=some 102) (v:=?_) (a':=?_) (sqB 32 536870919) rfl rfl J0 (fun _ _ _ h=>h) (Or.inl ⟨J19,?_⟩) ?_ ?_;rotate_left;intro w';go_simp;with_reducible rfl;rotate_left;simp only [Act.put,Y14,Y15,Y16,i64_w];rfl
 refine take_ (i:=3) (N:=some 76) (v:=?_) (a':=?_) (sqB 32 536870927) rfl rfl J0 (fun _ _ _ h=>h) (Or.inl ⟨J19,?_⟩) hHeld ?_ ?_;rotate_left;rintro w' ⟨s0,s1,s2,s3,s4⟩;go_simp;with_reducible rfl;rotate_left;simp only [Act.put,Y14,Y15,Y16,i64_w];rfl
 refine take_ (i:=4) (N:=some 77) (v:=?_) (a':=?_) (sqB 32 536870943) rfl rfl J0 (fun _ _ _ h=>h) (Or.inl ⟨J19,?_⟩) hHeld ?_ ?_;rotate_left;rintro w' ⟨s0,s1,s2,s3,s4⟩;go_simp;with_reducible rfl;rotate_left;simp only [Act.put,Y14,Y15,Y16,i64_w];rfl
 refine pure_ (i:=5) (N:=some 78) (v:=?_) (a':=?_) (sqB 32 536870975) rfl rfl J0 (fun _ _ _ h=>h) (Or.inl ⟨J19,?_⟩) ?_ ?_;rotate_left;intro w';go_simp;with_reducible rfl;rotate_left;simp only [Act.put,Y14,Y15,Y16,i64_w];rfl
 refine pure_ (i:=6) (N:=some 79) (v:=undef) (a':=?_) (sqB 32 536871039) rfl rfl J0 (fun _ _ _ h=>h) (Or.inr ⟨J19,rfl⟩) ?_ ?_;rotate_left;simp only [Act.put,Y14,Y15,Y16,i64_w];rfl
 refine pure_ (i:=7) (N:=some 80) (v:=undef) (a':=?_) (sqB 32 536871167) rfl rfl J0 (fun _ _ _ h=>h) (Or.inr ⟨J19,rfl⟩) ?_ ?_;rotate_left;simp only [Act.put,Y14,Y15,Y16,i64_w];rfl
 refine pure_ (i:=8) (N:=some 81) (v:=undef) (a':=?_) (sqB 32 536871423) rfl rfl J0 (fun _ _ _ h=>h) (Or.inr ⟨J19,rfl⟩) ?_ ?_;rotate_left;simp only [Act.put,Y14,Y15,Y16,i64_w];rfl
 refine pure_ (i:=9) (N:=some 82) (v:=undef) (a':=?_) (sqB 32 536871935) rfl rfl J0 (fun _ _ _ h=>h) (Or.inr ⟨J19,rfl⟩) ?_ ?_;rotate_left;simp only [Act.put,Y14,Y15,Y16,i64_w];rfl
 refine pure_ (i:=10) (N:=some 83) (v:=?_) (a':=?_) (sqB 32 536872959) rfl rfl J0 (fun _ _ _ h=>h) (Or.inl ⟨J19,?_⟩) ?_ ?_;rotate_left;intro w';go_simp;with_reducible rfl;rotate_left;simp only [Act.put,Y14,Y15,Y16,i64_w];rfl
 refine pure_ (i:=11) (N:=some 84) (v:=?_) (a':=?_) (sqB 32 536875007) rfl rfl J0 (fun _ _ _ h=>h) (Or.inl ⟨J19,?_⟩) ?_ ?_;rotate_left;intro w';go_simp;with_reducible rfl;rotate_left;simp only [Act.put,Y14,Y15,Y16,i64_w];rfl
 refine pure_ (i:=12) (N:=some 85) (v:=undef) (a':=?_) (sqB 32 536879103) rfl rfl J0 (fun _ _ _ h=>h) (Or.inr ⟨J19,rfl⟩) ?_ ?_;rotate_left;simp only [Act.put,Y14,Y15,Y16,i64_w];rfl
 refine pure_ (i:=13) (N:=some 86) (v:=undef) (a':=?_) (sqB 32 536887295) rfl rfl J0 (fun _ _ _ h=>h) (Or.inr ⟨J19,rfl⟩) ?_ ?_;rotate_left;simp only [Act.put,Y14,Y15,Y16,i64_w];rfl
 refine pure_ (i:=14) (N:=some 87) (v:=undef) (a':=?_) (sqB 32 536903679) rfl rfl J0 (fun _ _ _ h=>h) (Or.inr ⟨J19,rfl⟩) ?_ ?_;rotate_left;simp only [Act.put,Y14,Y15,Y16,i64_w];rfl
 refine pure_ (i:=15) (N:=some 88) (v:=undef) (a':=?_) (sqB 32 536936447) rfl rfl J0 (fun _ _ _ h=>h) (Or.inr ⟨J19,rfl⟩) ?_ ?_;rotate_left;simp only [Act.put,Y14,Y15,Y16,i64_w];rfl
 refine pure_ (i:=16) (N:=some 89) (v:=?_) (a':=?_) (sqB 32 537001983) rfl rfl J0 (fun _ _ _ h=>h) (Or.inl ⟨J19,?_⟩) ?_ ?_;rotate_left;intro w';go_simp;with_reducible rfl;rotate_left;simp only [Act.put,Y14,Y15,Y16,i64_w];rfl
 refine pure_ (i:=17) (N:=some 90) (v:=?_) (a':=?_) (sqB 32 537133055) rfl rfl J0 (fun _ _ _ h=>h) (Or.inl ⟨J19,?_⟩) ?_ ?_;rotate_left;intro w';go_simp;with_reducible rfl;rotate_left;simp only [Act.put,Y14,Y15,Y16,i64_w];rfl
 refine pure_ (i:=18) (N:=some 91) (v:=undef) (a':=?_) (sqB 32 537395199) rfl rfl J0 (fun _ _ _ h=>h) (Or.inr ⟨J19,rfl⟩) ?_ ?_;rotate_left;simp only [Act.put,Y14,Y15,Y16,i64_w];rfl
 refine pure_ (i:=19) (N:=some 92) (v:=undef) (a':=?_) (sqB 32 537919487) rfl rfl J0 (fun _ _ _ h=>h) (Or.inr ⟨J19,rfl⟩) ?_ ?_;rotate_left;simp only [Act.put,Y14,Y15,Y16,i64_w];rfl
 refine pure_ (i:=20) (N:=some 93) (v:=undef) (a':=?_) (sqB 32 538968063) rfl rfl J0 (fun _ _ _ h=>h) (Or.inr ⟨J19,rfl⟩) ?_ ?_;rotate_left;simp only [Act.put,Y14,Y15,Y16,i64_w];rfl
 refine pure_ (i:=21) (N:=some 94) (v:=undef) (a':=?_) (sqB 32 541065215) rfl rfl J0 (fun _ _ _ h=>h) (Or.inr ⟨J19,rfl⟩) ?_ ?_;rotate_left;simp only [Act.put,Y14,Y15,Y16,i64_w];rfl
 refine pure_ (i:=22) (N:=some 95) (v:=undef) (a':=?_) (sqB 32 545259519) rfl rfl J0 (fun _ _ _ h=>h) (Or.inr ⟨J19,rfl⟩) ?_ ?_;rotate_left;simp only [Act.put,Y14,Y15,Y16,i64_w];rfl
 refine pure_ (i:=23) (N:=some 96) (v:=undef) (a':=?_) (sqB 32 553648127) rfl rfl J0 (fun _ _ _ h=>h) (Or.inr ⟨J19,rfl⟩) ?_ ?_;rotate_left;simp only [Act.put,Y14,Y15,Y16,i64_w];rfl
 refine pure_ (i:=24) (N:=some 97) (v:=undef) (a':=?_) (sqB 32 570425343) rfl rfl J0 (fun _ _ _ h=>h) (Or.inr ⟨J19,rfl⟩) ?_ ?_;rotate_left;simp only [Act.put,Y14,Y15,Y16,i64_w];rfl
 refine pure_ (i:=25) (N:=some 98) (v:=?_) (a':=?_) (sqB 32 603979775) rfl rfl J0 (fun _ _ _ h=>h) (Or.inl ⟨J19,?_⟩) ?_ ?_;rotate_left;intro w';go_simp;with_reducible rfl;rotate_left;simp only [Act.put,Y14,Y15,Y16,i64_w];rfl
 refine pure_ (i:=26) (N:=some 99) (v:=?_) (a':=?_) (sqB 32 671088639) rfl rfl J0 (fun _ _ _ h=>h) (Or.inl ⟨J19,?_⟩) ?_ ?_;rotate_left;intro w';go_simp;with_reducible rfl;rotate_left;simp only [Act.put,Y14,Y15,Y16,i64_w];rfl
 refine pure_ (i:=27) (N:=some 100) (v:=undef) (a':=?_) (sqB 32 805306367) rfl rfl J0 (fun _ _ _ h=>h) (Or.inr ⟨J19,rfl⟩) ?_ ?_;rotate_left;simp only [Act.put,Y14,Y15,Y16,i64_w];rfl
 refine pure_ (i:=28) (N:=some 101) (v:=?_) (a':=?_) (sqB 32 1073741823) rfl rfl J0 (fun _ _ _ h=>h) (Or.inl ⟨J19,?_⟩) ?_ ?_;rotate_left;intro w';go_simp;with_reducible rfl;rotate_left;simp only [Act.put,Y14,Y15,Y16,i64_w];rfl
 refine take_ (i:=30) (N:=some 103) (v:=?_) (a':=?_) (sqB 32 2147483647) rfl rfl J0 (fun _ _ _ h=>h) (Or.inl ⟨J19,?_⟩) hHeld ?_ ?_;rotate_left;rintro w' ⟨s0,s1,s2,s3,s4⟩;go_simp;with_reducible rfl;rotate_left;simp only [Act.put,Y14,Y15,Y16,i64_w];rfl
 refine last_ (i:=31) (N:=some 104) (sqB 32 4294967295) rfl rfl J0 J11 (fun K hK=>?_)
 refine goes_ Tryz.func56 J0 rfl #[.pointer (some ⟨p,0,none⟩),.bool true,.int .i64 y6,.int .i64 4] J19 rfl rfl J32 ?_
 with_reducible refine (fail_s HE0.out.rs.blk true y6 4).mono ?_
 rintro e3 W3 ⟨rfl,hr3,hk3,-,hb3⟩
 refine ⟨_,rfl,?_⟩
 have n1_:=HE0.out.err hr3 hk3 hb3
 have n2_:=hk3.blk HX0.out (blk_ne HX0.out HE0.out.rs.blk J11) J53
 clear hr3 hk3 hb3
 refine hK.out _ _ ?_
 clear hK K
 refine norm_ (a':=?_) ?_ ?_;rotate_left;show Act.put _ (some 104) _=_;simp only [Act.put,Y14,Y15,Y16,i64_w];rfl
 refine done_ J0 ?_
 exact hK _ _ _ _ _ _ _ _ _ _ _ _ _ _ _ _ _ _ _ _ _ _ _ _ _ _ _ _ _ _ _ _ _ n1_ n2_
set_option maxHeartbeats 8000000 in
set_option maxRecDepth 1000000 in
theorem w17_2 {w0 wc:World} {D p mb n:Nat} {vA vB:Value} {f:List UInt8→Option (Int × Int)} {M:List (S57)} {E:List (S119)} {a1 e1:Int} {vM vE:Value} {h:Nat} {x0:ByteArray} {G:List (S51)} {vG:Value} {m1 m2 k1 k2:Nat} {S:List UInt8→Option Bool} {T:Int→Option Bool} {bx:Array Value} {vb:Nat} {y0 y1:ByteArray} {y2:Bool} {y3:Int} {y4:ByteArray} {y5 y6:Int} {O:List ByteArray} {AO:Option Addr} {cO:Nat} {TT:Bool} (HE:Aside0 (MI w0 D p mb n vA vB f M E a1 e1 vM vE h x0 G vG vG m1 m2 k1 k2 S T bx wc)) (HX:Aside0 (wc.heap[vb]?=some (.cells #[.string y0,.string y1,.bool y2,.int .i64 y3,.string y4,.int .i64 y5,.int .i64 y6] 36 (0,0)))) (HB2:Aside0 (bx[2]?=some (.slice AO O.length cO))) (HL1:Aside0 (∀ U:World,SSet U m1 k1 S→(Instr.lookup 169 (.map (some m1)) (.string y4) false).run Tryz.prog U = .ok (.bool false) U)) (HNUM:Aside0 (table_number.f y5=some false)) {K0 K1 K2 K3:Act→World→Prop} {POST:Ending→World→Prop} (v1 v2 v4 v7 v8 v9 v10 v11 v14 v15 v16 v17 v18 v19 v20 v21 v22 v23 v24 v25 v26 v27 v28 v29 v30 v31 v32 v33 v34 v35 v36 v37 v38 v39 v40 v41 v42 v43 v44 v45 v46 v47 v48 v49 v50 v51 v52 v53 v54 v55 v56 v57 v58 v59 v60 v61 v62 v63 v64 v65 v66 v67 v68 v69 v70 v71 v72 v105 v106 v107 v108 v109 v110 v111 v112 v113 v114 v115 v116 v117 v118 v119 v120 v121 v122 v123 v124 v125 v126 v127 v128 v129 v130 v131 v132 v133 v134 v135 v136 v137 v138 v139 v140 v141 v142 v143 v144 v145 v146 v147 v148 v149 v150 v151 v152 v153 v154 v155 v156 v157 v158 v159 v160 v161 v162 v163 v164 v165 v166 v167 v168 v169 v170 v171 v172 v173 v174 v175 v176 v177 v178 v179 v73 v74 v75 v76 v77 v78 v79 v80 v81 v82 v83 v84 v85 v86 v87 v88 v89 v90 v91 v92 v93 v94 v95 v96 v97 v98 v99 v100 v101 v102 v103 v104:Value)
  (hK:∀ (u73 u74 u75 u76 u77 u78 u79 u80 u81 u82 u83 u84 u85 u86 u87 u88 u89 u90 u91 u92 u93 u94 u95 u96 u97 u98 u99 u100 u101 u102 u103 u104:Value) (W':World),MI w0 D p mb n vA vB f M E (failE a1 e1 true y6 4).1 (failE a1 e1 true y6 4).2 vM vE h x0 G vG vG m1 m2 k1 k2 S T bx W'→W'.heap[vb]?=some (.cells #[.string y0,.string y1,.bool y2,.int .i64 y3,.string y4,.int .i64 y5,.int .i64 y6] 36 (0,0))→K0 ⟨#[.pointer (some ⟨p,0,none⟩),v1,v2,.pointer (some ⟨D,0,none⟩),v4,.map (some m1),.map (some m2),v7,v8,v9,v10,v11,.pointer (some ⟨vb,0,none⟩),.bool TT,v14,v15,v16,v17,v18,v19,v20,v21,v22,v23,v24,v25,v26,v27,v28,v29,v30,v31,v32,v33,v34,v35,v36,v37,v38,v39,v40,v41,v42,v43,v44,v45,v46,v47,v48,v49,v50,v51,v52,v53,v54,v55,v56,v57,v58,v59,v60,v61,v62,v63,v64,v65,v66,v67,v68,v69,v70,v71,v72,u73,u74,u75,u76,u77,u78,u79,u80,u81,u82,u83,u84,u85,u86,u87,u88,u89,u90,u91,u92,u93,u94,u95,u96,u97,u98,u99,u100,u101,u102,u103,u104,v105,v106,v107,v108,v109,v110,v111,v112,v113,v114,v115,v116,v117,v118,v119,v120,v121,v122,v123,v124,v125,v126,v127,v128,v129,v130,v131,v132,v133,v134,v135,v136,v137,v138,v139,v140,v141,v142,v143,v144,v145,v146,v147,v148,v149,v150,v151,v152,v153,v154,v155,v156,v157,v158,v159,v160,v161,v162,v163,v164,v165,v166,v167,v168,v169,v170,v171,v172,v173,v174,v175,v176,v177,v178,v179],[]⟩ W') :
  Code.wp Tryz.prog code17 (Exit.then K0 (Exit.inBlock 5 (Exit.then K1 (Exit.then K2 (Exit.inBlock 4 (Exit.then K3 (bodyPost Tryz.prog Tryz.f57 POST))))))) ⟨#[.pointer (some ⟨p,0,none⟩),v1,v2,.pointer (some ⟨D,0,none⟩),v4,.map (some m1),.map (some m2),v7,v8,v9,v10,v11,.pointer (some ⟨vb,0,none⟩),.bool TT,v14,v15,v16,v17,v18,v19,v20,v21,v22,v23,v24,v25,v26,v27,v28,v29,v30,v31,v32,v33,v34,v35,v36,v37,v38,v39,v40,v41,v42,v43,v44,v45,v46,v47,v48,v49,v50,v51,v52,v53,v54,v55,v56,v57,v58,v59,v60,v61,v62,v63,v64,v65,v66,v67,v68,v69,v70,v71,v72,v73,v74,v75,v76,v77,v78,v79,v80,v81,v82,v83,v84,v85,v86,v87,v88,v89,v90,v91,v92,v93,v94,v95,v96,v97,v98,v99,v100,v101,v102,v103,v104,v105,v106,v107,v108,v109,v110,v111,v112,v113,v114,v115,v116,v117,v118,v119,v120,v121,v122,v123,v124,v125,v126,v127,v128,v129,v130,v131,v132,v133,v134,v135,v136,v137,v138,v139,v140,v141,v142,v143,v144,v145,v146,v147,v148,v149,v150,v151,v152,v153,v154,v155,v156,v157,v158,v159,v160,v161,v162,v163,v164,v165,v166,v167,v168,v169,v170,v171,v172,v173,v174,v175,v176,v177,v178,v179],[]⟩ wc:=by
 conv=>arg 2;whnf
 have HE0:=Y0 HE.out.drew
 have HX0:=Y0 (blk_drew HX.out)
 refine start_ (n:=32) (S:=fun w'=>(Instr.lookup 169 (.map (some m1)) (.string y4) false).run Tryz.prog w' = .ok (.bool false) w'∧w'.cell? ⟨vb,4,none⟩=some (.string y4)∧w'.cell? ⟨vb,5,none⟩=some (.int .i64 y5)∧w'.cell? ⟨vb,3,none⟩=some (.int .i64 y3)∧w'.cell? ⟨vb,6,none⟩=some (.int .i64 y6)) (ds:=[31]) #[false,false,false,false,false,false,false,false,false,false,false,false,false,false,false,false,false,false,false,false,false,false,false,false,false,false,false,false,false,false,false,false] J0 rfl rfl ⟨(HL1.out _ HE0.out.ss),(blk_cell HX0.out 4),(blk_cell HX0.out 5),(blk_cell HX0.out 3),(blk_cell HX0.out 6)⟩ (fun hHeld=>?_)
 refine pure_ (i:=0) (N:=some 73) (v:=?_) (a':=?_) (sqB 32 1) rfl rfl J0 (fun _ _ _ h=>h) (Or.inl ⟨J19,?_⟩) ?_ ?_;rotate_left;intro w';go_simp;with_reducible rfl;rotate_left;simp only [Act.put,Y14,Y15,Y16,i64_w];rfl
 refine pure_ (i:=1) (N:=some 74) (v:=?_) (a':=?_) (sqB 32 3) rfl rfl J0 (fun _ _ _ h=>h) (Or.inl ⟨J19,?_⟩) ?_ ?_;rotate_left;intro w';go_simp;with_reducible rfl;rotate_left;simp only [Act.put,Y14,Y15,Y16,i64_w];rfl
 refine pure_ (i:=2) (N:=some 75) (v:=?_) (a':=?_) (sqB 32 7) rfl rfl J0 (fun _ _ _ h=>h) (Or.inl ⟨J19,?_⟩) ?_ ?_;rotate_left;intro w';go_simp;with_reducible rfl;rotate_left;simp only [Act.put,Y14,Y15,Y16,i64_w];rfl
 refine pure_ (i:=29) (N:=some 102) (v:=?_) (a':=?_) (sqB 32 536870919) rfl rfl J0 (fun _ _ _ h=>h) (Or.inl ⟨J19,?_⟩) ?_ ?_;rotate_left;intro w';go_simp;with_reducible rfl;rotate_left;simp only [Act.put,Y14,Y15,Y16,i64_w];rfl
 refine take_ (i:=3) (N:=some 76) (v:=?_) (a':=?_) (sqB 32 536870927) rfl rfl J0 (fun _ _ _ h=>h) (Or.inl ⟨J19,?_⟩) hHeld ?_ ?_;rotate_left;rintro w' ⟨s0,s1,s2,s3,s4⟩;go_simp;with_reducible rfl;rotate_left;simp only [Act.put,Y14,Y15,Y16,i64_w];rfl
 refine take_ (i:=4) (N:=some 77) (v:=?_) (a':=?_) (sqB 32 536870943) rfl rfl J0 (fun _ _ _ h=>h) (Or.inl ⟨J19,?_⟩) hHeld ?_ ?_;rotate_left;rintro w' ⟨s0,s1,s2,s3,s4⟩;go_simp;with_reducible rfl;rotate_left;simp only [Act.put,Y14,Y15,Y16,i64_w];rfl
 refine pure_ (i:=5) (N:=some 78) (v:=?_) (a':=?_) (sqB 32 536870975) rfl rfl J0 (fun _ _ _ h=>h) (Or.inl ⟨J19,?_⟩) ?_ ?_;rotate_left;intro w';go_simp;with_reducible rfl;rotate_left;simp only [Act.put,Y14,Y15,Y16,i64_w];rfl
 refine pure_ (i:=6) (N:=some 79) (v:=?_) (a':=?_) (sqB 32 536871039) rfl rfl J0 (fun _ _ _ h=>h) (Or.inl ⟨J19,?_⟩) ?_ ?_;rotate_left;intro w';go_simp;with_reducible rfl;rotate_left;simp only [Act.put,Y14,Y15,Y16,i64_w];rfl
 refine take_ (i:=7) (N:=some 80) (v:=?_) (a':=?_) (sqB 32 536871167) rfl rfl J0 (fun _ _ _ h=>h) (Or.inl ⟨J19,?_⟩) hHeld ?_ ?_;rotate_left;rintro w' ⟨s0,s1,s2,s3,s4⟩;go_simp;with_reducible rfl;rotate_left;simp only [Act.put,Y14,Y15,Y16,i64_w];rfl
 refine take_ (i:=30) (N:=some 103) (v:=?_) (a':=?_) (sqB 32 1610612991) rfl rfl J0 (fun _ _ _ h=>h) (Or.inl ⟨J19,?_⟩) hHeld ?_ ?_;rotate_left;rintro w' ⟨s0,s1,s2,s3,s4⟩;go_simp;with_reducible rfl;rotate_left;simp only [Act.put,Y14,Y15,Y16,i64_w];rfl
 refine one_ (i:=8) (N:=some 81) (sqB 32 1610613247) rfl rfl J0 J11 (fun K hK=>?_)
 refine goes_ Tryz.func98 J0 rfl #[.int .i64 y5] J19 rfl rfl J32 ?_
 with_reducible refine (table_number.calls y5 false _ HNUM.out).mono ?_
 rintro e1 W1 ⟨rfl,hd⟩
 refine ⟨_,rfl,?_⟩
 have HE1:=Y0 (HE0.out.drawn hd)
 have HX1:=Y0 (blk_below HX0.out hd.below)
 clear hd
 refine hK.out _ _ ⟨(HL1.out _ HE1.out.ss),(blk_cell HX1.out 4),(blk_cell HX1.out 5),(blk_cell HX1.out 3),(blk_cell HX1.out 6)⟩ (fun hHeld=>?_)
 clear hK K
 refine norm_ (a':=?_) ?_ ?_;rotate_left;show Act.put _ (some 81) _=_;simp only [Act.put,Y14,Y15,Y16,i64_w];rfl
 refine pure_ (i:=9) (N:=some 82) (v:=?_) (a':=?_) (sqB 32 1610613759) rfl rfl J0 (fun _ _ _ h=>h) (Or.inl ⟨J19,?_⟩) ?_ ?_;rotate_left;intro w';go_simp;with_reducible rfl;rotate_left;simp only [Act.put,Y14,Y15,Y16,i64_w];rfl
 refine pure_ (i:=10) (N:=some 83) (v:=?_) (a':=?_) (sqB 32 1610614783) rfl rfl J0 (fun _ _ _ h=>h) (Or.inl ⟨J19,?_⟩) ?_ ?_;rotate_left;intro w';go_simp;with_reducible rfl;rotate_left;simp only [Act.put,Y14,Y15,Y16,i64_w];rfl
 refine pure_ (i:=11) (N:=some 84) (v:=?_) (a':=?_) (sqB 32 1610616831) rfl rfl J0 (fun _ _ _ h=>h) (Or.inl ⟨J19,?_⟩) ?_ ?_;rotate_left;intro w';go_simp;with_reducible rfl;rotate_left;simp only [Act.put,Y14,Y15,Y16,i64_w];rfl
 refine pure_ (i:=12) (N:=some 85) (v:=undef) (a':=?_) (sqB 32 1610620927) rfl rfl J0 (fun _ _ _ h=>h) (Or.inr ⟨J19,rfl⟩) ?_ ?_;rotate_left;simp only [Act.put,Y14,Y15,Y16,i64_w];rfl
 refine pure_ (i:=13) (N:=some 86) (v:=undef) (a':=?_) (sqB 32 1610629119) rfl rfl J0 (fun _ _ _ h=>h) (Or.inr ⟨J19,rfl⟩) ?_ ?_;rotate_left;simp only [Act.put,Y14,Y15,Y16,i64_w];rfl
 refine pure_ (i:=14) (N:=some 87) (v:=undef) (a':=?_) (sqB 32 1610645503) rfl rfl J0 (fun _ _ _ h=>h) (Or.inr ⟨J19,rfl⟩) ?_ ?_;rotate_left;simp only [Act.put,Y14,Y15,Y16,i64_w];rfl
 refine pure_ (i:=15) (N:=some 88) (v:=undef) (a':=?_) (sqB 32 1610678271) rfl rfl J0 (fun _ _ _ h=>h) (Or.inr ⟨J19,rfl⟩) ?_ ?_;rotate_left;simp only [Act.put,Y14,Y15,Y16,i64_w];rfl
 refine pure_ (i:=16) (N:=some 89) (v:=?_) (a':=?_) (sqB 32 1610743807) rfl rfl J0 (fun _ _ _ h=>h) (Or.inl ⟨J19,?_⟩) ?_ ?_;rotate_left;intro w';go_simp;with_reducible rfl;rotate_left;simp only [Act.put,Y14,Y15,Y16,i64_w];rfl
 refine pure_ (i:=17) (N:=some 90) (v:=?_) (a':=?_) (sqB 32 1610874879) rfl rfl J0 (fun _ _ _ h=>h) (Or.inl ⟨J19,?_⟩) ?_ ?_;rotate_left;intro w';go_simp;with_reducible rfl;rotate_left;simp only [Act.put,Y14,Y15,Y16,i64_w];rfl
 refine pure_ (i:=18) (N:=some 91) (v:=undef) (a':=?_) (sqB 32 1611137023) rfl rfl J0 (fun _ _ _ h=>h) (Or.inr ⟨J19,rfl⟩) ?_ ?_;rotate_left;simp only [Act.put,Y14,Y15,Y16,i64_w];rfl
 refine pure_ (i:=19) (N:=some 92) (v:=undef) (a':=?_) (sqB 32 1611661311) rfl rfl J0 (fun _ _ _ h=>h) (Or.inr ⟨J19,rfl⟩) ?_ ?_;rotate_left;simp only [Act.put,Y14,Y15,Y16,i64_w];rfl
 refine pure_ (i:=20) (N:=some 93) (v:=undef) (a':=?_) (sqB 32 1612709887) rfl rfl J0 (fun _ _ _ h=>h) (Or.inr ⟨J19,rfl⟩) ?_ ?_;rotate_left;simp only [Act.put,Y14,Y15,Y16,i64_w];rfl
 refine pure_ (i:=21) (N:=some 94) (v:=undef) (a':=?_) (sqB 32 1614807039) rfl rfl J0 (fun _ _ _ h=>h) (Or.inr ⟨J19,rfl⟩) ?_ ?_;rotate_left;simp only [Act.put,Y14,Y15,Y16,i64_w];rfl
 refine pure_ (i:=22) (N:=some 95) (v:=undef) (a':=?_) (sqB 32 1619001343) rfl rfl J0 (fun _ _ _ h=>h) (Or.inr ⟨J19,rfl⟩) ?_ ?_;rotate_left;simp only [Act.put,Y14,Y15,Y16,i64_w];rfl
 refine pure_ (i:=23) (N:=some 96) (v:=undef) (a':=?_) (sqB 32 1627389951) rfl rfl J0 (fun _ _ _ h=>h) (Or.inr ⟨J19,rfl⟩) ?_ ?_;rotate_left;simp only [Act.put,Y14,Y15,Y16,i64_w];rfl
 refine pure_ (i:=24) (N:=some 97) (v:=undef) (a':=?_) (sqB 32 1644167167) rfl rfl J0 (fun _ _ _ h=>h) (Or.inr ⟨J19,rfl⟩) ?_ ?_;rotate_left;simp only [Act.put,Y14,Y15,Y16,i64_w];rfl
 refine pure_ (i:=25) (N:=some 98) (v:=?_) (a':=?_) (sqB 32 1677721599) rfl rfl J0 (fun _ _ _ h=>h) (Or.inl ⟨J19,?_⟩) ?_ ?_;rotate_left;intro w';go_simp;with_reducible rfl;rotate_left;simp only [Act.put,Y14,Y15,Y16,i64_w];rfl
 refine pure_ (i:=26) (N:=some 99) (v:=?_) (a':=?_) (sqB 32 1744830463) rfl rfl J0 (fun _ _ _ h=>h) (Or.inl ⟨J19,?_⟩) ?_ ?_;rotate_left;intro w';go_simp;with_reducible rfl;rotate_left;simp only [Act.put,Y14,Y15,Y16,i64_w];rfl
 refine pure_ (i:=27) (N:=some 100) (v:=undef) (a':=?_) (sqB 32 1879048191) rfl rfl J0 (fun _ _ _ h=>h) (Or.inr ⟨J19,rfl⟩) ?_ ?_;rotate_left;simp only [Act.put,Y14,Y15,Y16,i64_w];rfl
 refine pure_ (i:=28) (N:=some 101) (v:=?_) (a':=?_) (sqB 32 2147483647) rfl rfl J0 (fun _ _ _ h=>h) (Or.inl ⟨J19,?_⟩) ?_ ?_;rotate_left;intro w';go_simp;with_reducible rfl;rotate_left;simp only [Act.put,Y14,Y15,Y16,i64_w];rfl
 refine last_ (i:=31) (N:=some 104) (sqB 32 4294967295) rfl rfl J0 J11 (fun K hK=>?_)
 refine goes_ Tryz.func56 J0 rfl #[.pointer (some ⟨p,0,none⟩),.bool true,.int .i64 y6,.int .i64 4] J19 rfl rfl J32 ?_
 with_reducible refine (fail_s HE1.out.rs.blk true y6 4).mono ?_
 rintro e3 W3 ⟨rfl,hr3,hk3,-,hb3⟩
 refine ⟨_,rfl,?_⟩
 have n1_:=HE1.out.err hr3 hk3 hb3
 have n2_:=hk3.blk HX1.out (blk_ne HX1.out HE1.out.rs.blk J11) J53
 clear hr3 hk3 hb3
 refine hK.out _ _ ?_
 clear hK K
 refine norm_ (a':=?_) ?_ ?_;rotate_left;show Act.put _ (some 104) _=_;simp only [Act.put,Y14,Y15,Y16,i64_w];rfl
 refine done_ J0 ?_
 exact hK _ _ _ _ _ _ _ _ _ _ _ _ _ _ _ _ _ _ _ _ _ _ _ _ _ _ _ _ _ _ _ _ _ n1_ n2_
set_option maxHeartbeats 8000000 in
set_option maxRecDepth 1000000 in
theorem w17_3 {w0 wc:World} {D p mb n:Nat} {vA vB:Value} {f:List UInt8→Option (Int × Int)} {M:List (S57)} {E:List (S119)} {a1 e1:Int} {vM vE:Value} {h:Nat} {x0:ByteArray} {G:List (S51)} {vG:Value} {m1 m2 k1 k2:Nat} {S:List UInt8→Option Bool} {T:Int→Option Bool} {bx:Array Value} {vb:Nat} {y0 y1:ByteArray} {y2:Bool} {y3:Int} {y4:ByteArray} {y5 y6:Int} {O:List ByteArray} {AO:Option Addr} {cO:Nat} {TT:Bool} (HE:Aside0 (MI w0 D p mb n vA vB f M E a1 e1 vM vE h x0 G vG vG m1 m2 k1 k2 S T bx wc)) (HX:Aside0 (wc.heap[vb]?=some (.cells #[.string y0,.string y1,.bool y2,.int .i64 y3,.string y4,.int .i64 y5,.int .i64 y6] 36 (0,0)))) (HB2:Aside0 (bx[2]?=some (.slice AO O.length cO))) (HL1:Aside0 (∀ U:World,SSet U m1 k1 S→(Instr.lookup 169 (.map (some m1)) (.string y4) false).run Tryz.prog U = .ok (.bool false) U)) (HNUM:Aside0 (table_number.f y5=some true)) (HL2:Aside0 (∀ U:World,ISet U m2 k2 T→(Instr.lookup 170 (.map (some m2)) (.int .i64 y5) false).run Tryz.prog U = .ok (.bool true) U)) {K0 K1 K2 K3:Act→World→Prop} {POST:Ending→World→Prop} (v1 v2 v4 v7 v8 v9 v10 v11 v14 v15 v16 v17 v18 v19 v20 v21 v22 v23 v24 v25 v26 v27 v28 v29 v30 v31 v32 v33 v34 v35 v36 v37 v38 v39 v40 v41 v42 v43 v44 v45 v46 v47 v48 v49 v50 v51 v52 v53 v54 v55 v56 v57 v58 v59 v60 v61 v62 v63 v64 v65 v66 v67 v68 v69 v70 v71 v72 v105 v106 v107 v108 v109 v110 v111 v112 v113 v114 v115 v116 v117 v118 v119 v120 v121 v122 v123 v124 v125 v126 v127 v128 v129 v130 v131 v132 v133 v134 v135 v136 v137 v138 v139 v140 v141 v142 v143 v144 v145 v146 v147 v148 v149 v150 v151 v152 v153 v154 v155 v156 v157 v158 v159 v160 v161 v162 v163 v164 v165 v166 v167 v168 v169 v170 v171 v172 v173 v174 v175 v176 v177 v178 v179 v73 v74 v75 v76 v77 v78 v79 v80 v81 v82 v83 v84 v85 v86 v87 v88 v89 v90 v91 v92 v93 v94 v95 v96 v97 v98 v99 v100 v101 v102 v103 v104:Value)
  (hK:∀ (u73 u74 u75 u76 u77 u78 u79 u80 u81 u82 u83 u84 u85 u86 u87 u88 u89 u90 u91 u92 u93 u94 u95 u96 u97 u98 u99 u100 u101 u102 u103 u104:Value) (W':World),MI w0 D p mb n vA vB f M E (failE a1 e1 true y6 4).1 (failE a1 e1 true y6 4).2 vM vE h x0 G vG vG m1 m2 k1 k2 S T bx W'→W'.heap[vb]?=some (.cells #[.string y0,.string y1,.bool y2,.int .i64 y3,.string y4,.int .i64 y5,.int .i64 y6] 36 (0,0))→K0 ⟨#[.pointer (some ⟨p,0,none⟩),v1,v2,.pointer (some ⟨D,0,none⟩),v4,.map (some m1),.map (some m2),v7,v8,v9,v10,v11,.pointer (some ⟨vb,0,none⟩),.bool TT,v14,v15,v16,v17,v18,v19,v20,v21,v22,v23,v24,v25,v26,v27,v28,v29,v30,v31,v32,v33,v34,v35,v36,v37,v38,v39,v40,v41,v42,v43,v44,v45,v46,v47,v48,v49,v50,v51,v52,v53,v54,v55,v56,v57,v58,v59,v60,v61,v62,v63,v64,v65,v66,v67,v68,v69,v70,v71,v72,u73,u74,u75,u76,u77,u78,u79,u80,u81,u82,u83,u84,u85,u86,u87,u88,u89,u90,u91,u92,u93,u94,u95,u96,u97,u98,u99,u100,u101,u102,u103,u104,v105,v106,v107,v108,v109,v110,v111,v112,v113,v114,v115,v116,v117,v118,v119,v120,v121,v122,v123,v124,v125,v126,v127,v128,v129,v130,v131,v132,v133,v134,v135,v136,v137,v138,v139,v140,v141,v142,v143,v144,v145,v146,v147,v148,v149,v150,v151,v152,v153,v154,v155,v156,v157,v158,v159,v160,v161,v162,v163,v164,v165,v166,v167,v168,v169,v170,v171,v172,v173,v174,v175,v176,v177,v178,v179],[]⟩ W') :
  Code.wp Tryz.prog code17 (Exit.then K0 (Exit.inBlock 5 (Exit.then K1 (Exit.then K2 (Exit.inBlock 4 (Exit.then K3 (bodyPost Tryz.prog Tryz.f57 POST))))))) ⟨#[.pointer (some ⟨p,0,none⟩),v1,v2,.pointer (some ⟨D,0,none⟩),v4,.map (some m1),.map (some m2),v7,v8,v9,v10,v11,.pointer (some ⟨vb,0,none⟩),.bool TT,v14,v15,v16,v17,v18,v19,v20,v21,v22,v23,v24,v25,v26,v27,v28,v29,v30,v31,v32,v33,v34,v35,v36,v37,v38,v39,v40,v41,v42,v43,v44,v45,v46,v47,v48,v49,v50,v51,v52,v53,v54,v55,v56,v57,v58,v59,v60,v61,v62,v63,v64,v65,v66,v67,v68,v69,v70,v71,v72,v73,v74,v75,v76,v77,v78,v79,v80,v81,v82,v83,v84,v85,v86,v87,v88,v89,v90,v91,v92,v93,v94,v95,v96,v97,v98,v99,v100,v101,v102,v103,v104,v105,v106,v107,v108,v109,v110,v111,v112,v113,v114,v115,v116,v117,v118,v119,v120,v121,v122,v123,v124,v125,v126,v127,v128,v129,v130,v131,v132,v133,v134,v135,v136,v137,v138,v139,v140,v141,v142,v143,v144,v145,v146,v147,v148,v149,v150,v151,v152,v153,v154,v155,v156,v157,v158,v159,v160,v161,v162,v163,v164,v165,v166,v167,v168,v169,v170,v171,v172,v173,v174,v175,v176,v177,v178,v179],[]⟩ wc:=by
 conv=>arg 2;whnf
 have HE0:=Y0 HE.out.drew
 have HX0:=Y0 (blk_drew HX.out)
 refine start_ (n:=32) (S:=fun w'=>(Instr.lookup 169 (.map (some m1)) (.string y4) false).run Tryz.prog w' = .ok (.bool false) w'∧w'.cell? ⟨vb,4,none⟩=some (.string y4)∧w'.cell? ⟨vb,5,none⟩=some (.int .i64 y5)∧w'.cell? ⟨vb,3,none⟩=some (.int .i64 y3)∧w'.cell? ⟨vb,6,none⟩=some (.int .i64 y6)∧(Instr.lookup 170 (.map (some m2)) (.int .i64 y5) false).run Tryz.prog w' = .ok (.bool true) w'∧w'.cell? ⟨D,2,none⟩=some (.slice AO O.length cO)) (ds:=[31]) #[false,false,false,false,false,false,false,false,false,false,false,false,false,false,false,false,false,false,false,false,false,false,false,false,false,false,false,false,false,false,false,false] J0 rfl rfl ⟨(HL1.out _ HE0.out.ss),(blk_cell HX0.out 4),(blk_cell HX0.out 5),(blk_cell HX0.out 3),(blk_cell HX0.out 6),(HL2.out _ HE0.out.is),((blk_cell HE0.out.bx 2).trans HB2.out)⟩ (fun hHeld=>?_)
 refine pure_ (i:=0) (N:=some 73) (v:=?_) (a':=?_) (sqB 32 1) rfl rfl J0 (fun _ _ _ h=>h) (Or.inl ⟨J19,?_⟩) ?_ ?_;rotate_left;intro w';go_simp;with_reducible rfl;rotate_left;simp only [Act.put,Y14,Y15,Y16,i64_w];rfl
 refine pure_ (i:=1) (N:=some 74) (v:=?_) (a':=?_) (sqB 32 3) rfl rfl J0 (fun _ _ _ h=>h) (Or.inl ⟨J19,?_⟩) ?_ ?_;rotate_left;intro w';go_simp;with_reducible rfl;rotate_left;simp only [Act.put,Y14,Y15,Y16,i64_w];rfl
 refine pure_ (i:=2) (N:=some 75) (v:=?_) (a':=?_) (sqB 32 7) rfl rfl J0 (fun _ _ _ h=>h) (Or.inl ⟨J19,?_⟩) ?_ ?_;rotate_left;intro w';go_simp;with_reducible rfl;rotate_left;simp only [Act.put,Y14,Y15,Y16,i64_w];rfl
 refine pure_ (i:=29) (N:=some 102) (v:=?_) (a':=?_) (sqB 32 536870919) rfl rfl J0 (fun _ _ _ h=>h) (Or.inl ⟨J19,?_⟩) ?_ ?_;rotate_left;intro w';go_simp;with_reducible rfl;rotate_left;simp only [Act.put,Y14,Y15,Y16,i64_w];rfl
 refine take_ (i:=3) (N:=some 76) (v:=?_) (a':=?_) (sqB 32 536870927) rfl rfl J0 (fun _ _ _ h=>h) (Or.inl ⟨J19,?_⟩) hHeld ?_ ?_;rotate_left;rintro w' ⟨s0,s1,s2,s3,s4,s5,s6⟩;go_simp;with_reducible rfl;rotate_left;simp only [Act.put,Y14,Y15,Y16,i64_w];rfl
 refine take_ (i:=4) (N:=some 77) (v:=?_) (a':=?_) (sqB 32 536870943) rfl rfl J0 (fun _ _ _ h=>h) (Or.inl ⟨J19,?_⟩) hHeld ?_ ?_;rotate_left;rintro w' ⟨s0,s1,s2,s3,s4,s5,s6⟩;go_simp;with_reducible rfl;rotate_left;simp only [Act.put,Y14,Y15,Y16,i64_w];rfl
 refine pure_ (i:=5) (N:=some 78) (v:=?_) (a':=?_) (sqB 32 536870975) rfl rfl J0 (fun _ _ _ h=>h) (Or.inl ⟨J19,?_⟩) ?_ ?_;rotate_left;intro w';go_simp;with_reducible rfl;rotate_left;simp only [Act.put,Y14,Y15,Y16,i64_w];rfl
 refine pure_ (i:=6) (N:=some 79) (v:=?_) (a':=?_) (sqB 32 536871039) rfl rfl J0 (fun _ _ _ h=>h) (Or.inl ⟨J19,?_⟩) ?_ ?_;rotate_left;intro w';go_simp;with_reducible rfl;rotate_left;simp only [Act.put,Y14,Y15,Y16,i64_w];rfl
 refine take_ (i:=7) (N:=some 80) (v:=?_) (a':=?_) (sqB 32 536871167) rfl rfl J0 (fun _ _ _ h=>h) (Or.inl ⟨J19,?_⟩) hHeld ?_ ?_;rotate_left;rintro w' ⟨s0,s1,s2,s3,s4,s5,s6⟩;go_simp;with_reducible rfl;rotate_left;simp only [Act.put,Y14,Y15,Y16,i64_w];rfl
 refine take_ (i:=30) (N:=some 103) (v:=?_) (a':=?_) (sqB 32 1610612991) rfl rfl J0 (fun _ _ _ h=>h) (Or.inl ⟨J19,?_⟩) hHeld ?_ ?_;rotate_left;rintro w' ⟨s0,s1,s2,s3,s4,s5,s6⟩;go_simp;with_reducible rfl;rotate_left;simp only [Act.put,Y14,Y15,Y16,i64_w];rfl
 refine one_ (i:=8) (N:=some 81) (sqB 32 1610613247) rfl rfl J0 J11 (fun K hK=>?_)
 refine goes_ Tryz.func98 J0 rfl #[.int .i64 y5] J19 rfl rfl J32 ?_
 with_reducible refine (table_number.calls y5 true _ HNUM.out).mono ?_
 rintro e1 W1 ⟨rfl,hd⟩
 refine ⟨_,rfl,?_⟩
 have HE1:=Y0 (HE0.out.drawn hd)
 have HX1:=Y0 (blk_below HX0.out hd.below)
 clear hd
 refine hK.out _ _ ⟨(HL1.out _ HE1.out.ss),(blk_cell HX1.out 4),(blk_cell HX1.out 5),(blk_cell HX1.out 3),(blk_cell HX1.out 6),(HL2.out _ HE1.out.is),((blk_cell HE1.out.bx 2).trans HB2.out)⟩ (fun hHeld=>?_)
 clear hK K
 refine norm_ (a':=?_) ?_ ?_;rotate_left;show Act.put _ (some 81) _=_;simp only [Act.put,Y14,Y15,Y16,i64_w];rfl
 refine pure_ (i:=9) (N:=some 82) (v:=?_) (a':=?_) (sqB 32 1610613759) rfl rfl J0 (fun _ _ _ h=>h) (Or.inl ⟨J19,?_⟩) ?_ ?_;rotate_left;intro w';go_simp;with_reducible rfl;rotate_left;simp only [Act.put,Y14,Y15,Y16,i64_w];rfl
 refine pure_ (i:=10) (N:=some 83) (v:=?_) (a':=?_) (sqB 32 1610614783) rfl rfl J0 (fun _ _ _ h=>h) (Or.inl ⟨J19,?_⟩) ?_ ?_;rotate_left;intro w';go_simp;with_reducible rfl;rotate_left;simp only [Act.put,Y14,Y15,Y16,i64_w];rfl
 refine pure_ (i:=11) (N:=some 84) (v:=?_) (a':=?_) (sqB 32 1610616831) rfl rfl J0 (fun _ _ _ h=>h) (Or.inl ⟨J19,?_⟩) ?_ ?_;rotate_left;intro w';go_simp;with_reducible rfl;rotate_left;simp only [Act.put,Y14,Y15,Y16,i64_w];rfl
 refine pure_ (i:=12) (N:=some 85) (v:=?_) (a':=?_) (sqB 32 1610620927) rfl rfl J0 (fun _ _ _ h=>h) (Or.inl ⟨J19,?_⟩) ?_ ?_;rotate_left;intro w';go_simp;with_reducible rfl;rotate_left;simp only [Act.put,Y14,Y15,Y16,i64_w];rfl
 refine pure_ (i:=13) (N:=some 86) (v:=?_) (a':=?_) (sqB 32 1610629119) rfl rfl J0 (fun _ _ _ h=>h) (Or.inl ⟨J19,?_⟩) ?_ ?_;rotate_left;intro w';go_simp;with_reducible rfl;rotate_left;simp only [Act.put,Y14,Y15,Y16,i64_w];rfl
 refine take_ (i:=14) (N:=some 87) (v:=?_) (a':=?_) (sqB 32 1610645503) rfl rfl J0 (fun _ _ _ h=>h) (Or.inl ⟨J19,?_⟩) hHeld ?_ ?_;rotate_left;rintro w' ⟨s0,s1,s2,s3,s4,s5,s6⟩;go_simp;with_reducible rfl;rotate_left;simp only [Act.put,Y14,Y15,Y16,i64_w];rfl
 refine take_ (i:=15) (N:=some 88) (v:=?_) (a':=?_) (sqB 32 1610678271) rfl rfl J0 (fun _ _ _ h=>h) (Or.inl ⟨J19,?_⟩) hHeld ?_ ?_;rotate_left;rintro w' ⟨s0,s1,s2,s3,s4,s5,s6⟩;go_simp;with_reducible rfl;rotate_left;simp only [Act.put,Y14,Y15,Y16,i64_w];rfl
 refine pure_ (i:=16) (N:=some 89) (v:=?_) (a':=?_) (sqB 32 1610743807) rfl rfl J0 (fun _ _ _ h=>h) (Or.inl ⟨J19,?_⟩) ?_ ?_;rotate_left;intro w';go_simp;with_reducible rfl;rotate_left;simp only [Act.put,Y14,Y15,Y16,i64_w];rfl
 refine pure_ (i:=17) (N:=some 90) (v:=?_) (a':=?_) (sqB 32 1610874879) rfl rfl J0 (fun _ _ _ h=>h) (Or.inl ⟨J19,?_⟩) ?_ ?_;rotate_left;intro w';go_simp;with_reducible rfl;rotate_left;simp only [Act.put,Y14,Y15,Y16,i64_w];rfl
 refine pure_ (i:=18) (N:=some 91) (v:=undef) (a':=?_) (sqB 32 1611137023) rfl rfl J0 (fun _ _ _ h=>h) (Or.inr ⟨J19,rfl⟩) ?_ ?_;rotate_left;simp only [Act.put,Y14,Y15,Y16,i64_w];rfl
 refine pure_ (i:=19) (N:=some 92) (v:=undef) (a':=?_) (sqB 32 1611661311) rfl rfl J0 (fun _ _ _ h=>h) (Or.inr ⟨J19,rfl⟩) ?_ ?_;rotate_left;simp only [Act.put,Y14,Y15,Y16,i64_w];rfl
 refine pure_ (i:=20) (N:=some 93) (v:=undef) (a':=?_) (sqB 32 1612709887) rfl rfl J0 (fun _ _ _ h=>h) (Or.inr ⟨J19,rfl⟩) ?_ ?_;rotate_left;simp only [Act.put,Y14,Y15,Y16,i64_w];rfl
 refine pure_ (i:=21) (N:=some 94) (v:=undef) (a':=?_) (sqB 32 1614807039) rfl rfl J0 (fun _ _ _ h=>h) (Or.inr ⟨J19,rfl⟩) ?_ ?_;rotate_left;simp only [Act.put,Y14,Y15,Y16,i64_w];rfl
 refine pure_ (i:=22) (N:=some 95) (v:=undef) (a':=?_) (sqB 32 1619001343) rfl rfl J0 (fun _ _ _ h=>h) (Or.inr ⟨J19,rfl⟩) ?_ ?_;rotate_left;simp only [Act.put,Y14,Y15,Y16,i64_w];rfl
 refine pure_ (i:=23) (N:=some 96) (v:=undef) (a':=?_) (sqB 32 1627389951) rfl rfl J0 (fun _ _ _ h=>h) (Or.inr ⟨J19,rfl⟩) ?_ ?_;rotate_left;simp only [Act.put,Y14,Y15,Y16,i64_w];rfl
 refine pure_ (i:=24) (N:=some 97) (v:=undef) (a':=?_) (sqB 32 1644167167) rfl rfl J0 (fun _ _ _ h=>h) (Or.inr ⟨J19,rfl⟩) ?_ ?_;rotate_left;simp only [Act.put,Y14,Y15,Y16,i64_w];rfl
 refine pure_ (i:=25) (N:=some 98) (v:=?_) (a':=?_) (sqB 32 1677721599) rfl rfl J0 (fun _ _ _ h=>h) (Or.inl ⟨J19,?_⟩) ?_ ?_;rotate_left;intro w';go_simp;with_reducible rfl;rotate_left;simp only [Act.put,Y14,Y15,Y16,i64_w];rfl
 refine pure_ (i:=26) (N:=some 99) (v:=?_) (a':=?_) (sqB 32 1744830463) rfl rfl J0 (fun _ _ _ h=>h) (Or.inl ⟨J19,?_⟩) ?_ ?_;rotate_left;intro w';go_simp;with_reducible rfl;rotate_left;simp only [Act.put,Y14,Y15,Y16,i64_w];rfl
 refine pure_ (i:=27) (N:=some 100) (v:=undef) (a':=?_) (sqB 32 1879048191) rfl rfl J0 (fun _ _ _ h=>h) (Or.inr ⟨J19,rfl⟩) ?_ ?_;rotate_left;simp only [Act.put,Y14,Y15,Y16,i64_w];rfl
 refine pure_ (i:=28) (N:=some 101) (v:=?_) (a':=?_) (sqB 32 2147483647) rfl rfl J0 (fun _ _ _ h=>h) (Or.inl ⟨J19,?_⟩) ?_ ?_;rotate_left;intro w';go_simp;with_reducible rfl;rotate_left;simp only [Act.put,Y14,Y15,Y16,i64_w];rfl
 refine last_ (i:=31) (N:=some 104) (sqB 32 4294967295) rfl rfl J0 J11 (fun K hK=>?_)
 refine goes_ Tryz.func56 J0 rfl #[.pointer (some ⟨p,0,none⟩),.bool true,.int .i64 y6,.int .i64 4] J19 rfl rfl J32 ?_
 with_reducible refine (fail_s HE1.out.rs.blk true y6 4).mono ?_
 rintro e3 W3 ⟨rfl,hr3,hk3,-,hb3⟩
 refine ⟨_,rfl,?_⟩
 have n1_:=HE1.out.err hr3 hk3 hb3
 have n2_:=hk3.blk HX1.out (blk_ne HX1.out HE1.out.rs.blk J11) J53
 clear hr3 hk3 hb3
 refine hK.out _ _ ?_
 clear hK K
 refine norm_ (a':=?_) ?_ ?_;rotate_left;show Act.put _ (some 104) _=_;simp only [Act.put,Y14,Y15,Y16,i64_w];rfl
 refine done_ J0 ?_
 exact hK _ _ _ _ _ _ _ _ _ _ _ _ _ _ _ _ _ _ _ _ _ _ _ _ _ _ _ _ _ _ _ _ _ n1_ n2_
end Go.Proofs.YtddpjjhekhompaaGreatDoor.P
