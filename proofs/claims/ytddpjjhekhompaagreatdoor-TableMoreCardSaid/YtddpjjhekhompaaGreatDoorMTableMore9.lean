/- Part 9 of what the law TableMore leans on: contracts of the functions that it reaches, and plain lemmas. No condition. -/
import Derived.Test.YtddpjjhekhompaaGreatDoorMTableMore8
namespace Go.Proofs.YtddpjjhekhompaaGreatDoor.P
open Go.RowKit Go.Proofs.YtddpjjhekhompaaGreatDoorW.PrintWords Go.Proofs.YtddpjjhekhompaaGreatDoorW.PrintLast Go.Proofs.YtddpjjhekhompaaGreatDoorW.PrintMore
attribute [local go_sem] max2_int max_two
set_option linter.unusedVariables false
set_option linter.unusedSimpArgs false
def table_Same_1.f (k:Nat) (a0_0:ByteArray) (l0_1:List (S51)) (a1_0:ByteArray) (l1_1:List (S51)):Option (Bool):=if a0_0.toList=a1_0.toList then ((api_FieldDef.f k l0_1 l1_1).bind fun t426=>(some t426)) else (some false)
set_option maxHeartbeats 8000000 in
set_option maxRecDepth 100000 in
theorem table_Same_1.calls (k:Nat) (a0_0:ByteArray) (A0_1:Option Addr) (c0_1:Nat) (l0_1:List (S51)) (a1_0:ByteArray) (A1_1:Option Addr) (c1_1:Nat) (l1_1:List (S51)) (r:Bool) (w:World) (hr0_1:Kd.C k51 w A0_1 l0_1.length l0_1) (hc0_1:l0_1.length≤c0_1) (hr1_1:Kd.C k51 w A1_1 l1_1.length l1_1) (hc1_1:l1_1.length≤c1_1) (h:table_Same_1.f k a0_0 l0_1 a1_0 l1_1=some r) :
  Calls Tryz.prog 69 #[.agg #[.string a0_0,.slice A0_1 l0_1.length c0_1],.agg #[.string a1_0,.slice A1_1 l1_1.length c1_1]] w fun e w'=>e = .returned (.bool r)∧Below w.heap.size w w':=by
 have hu57:=Tryz.underlying57
 have HR0_1:=Y0 hr0_1
 have HC0_1:=Y0 hc0_1
 clear hr0_1 hc0_1
 have HR1_1:=Y0 hr1_1
 have HC1_1:=Y0 hc1_1
 clear hr1_1 hc1_1
 have HB:=Y0 (Below.refl w.heap.size w)
 have H:(if a0_0.toList=a1_0.toList then ((api_FieldDef.f k l0_1 l1_1).bind fun t426=>(some t426)) else (some false))=some r:=h
 clear h
 by_cases c3:a0_0.toList=a1_0.toList
 rotate_left
 ·rw [if_neg c3] at H
  have c3b0:(a0_0.toList == a1_0.toList)=false:=beq_eq_false_iff_ne.mpr c3
  have c3b1:(a0_0.toList != a1_0.toList)=true:=bne_iff_ne.mpr c3
  obtain rfl:=Option.some.inj H
  go_enter Tryz.func69,Tryz.ntmps69
  go_wp2_with (first|((with_reducible refine gate_dst (N:=2) rfl ?_);refine box_event ?hg (N:=2) ?hd (cs:=#[.string a0_0,.slice A0_1 l0_1.length c0_1]) (t:=57) ?hr ?_;(case hd=>rfl);(case hg=>rfl);(case hr=>first|(go_simp;done)|(go_simp;rfl));intro gb424 hg w10 hbox hb;have n0_:=Y0 (below_step J4 hb);have n1_:=Y0 (hbox);have n2_:=Y0 ((by rw [hg];exact (below_size J4):w.heap.size≤gb424));have n3_:=Y0 ((by rw [hg];exact (below_size J4):w.heap.size≤gb424));clear HB;have HB:=n0_;have BK424:=n1_;have GW424:=n2_;have GE424:=n3_;clear n0_ n1_ n2_ n3_;clear hb hbox hg)|((with_reducible refine gate_dst (N:=3) rfl ?_);refine box_event ?hg (N:=3) ?hd (cs:=#[.string a1_0,.slice A1_1 l1_1.length c1_1]) (t:=57) ?hr ?_;(case hd=>rfl);(case hg=>rfl);(case hr=>first|(go_simp;done)|(go_simp;rfl));intro gb425 hg w11 hbox hb;have n0_:=Y0 (blk_below (g:=gb424) (o:=.cells #[.string a0_0,.slice A0_1 l0_1.length c0_1] 57 (0,0)) J80 hb);have n1_:=Y0 (below_step J71 hb);have n2_:=Y0 (hbox);have n3_:=Y0 ((by rw [hg];exact (below_size J71):w.heap.size≤gb425));have n4_:=Y0 ((by rw [hg];exact (below_size J71):w.heap.size≤gb425));have n5_:=Y0 ((by rw [hg];exact Nat.ne_of_lt (blk_lt (g:=gb424) (o:=.cells #[.string a0_0,.slice A0_1 l0_1.length c0_1] 57 (0,0)) J80):gb424≠gb425));have n6_:=Y0 ((by rw [hg];exact Nat.ne_of_gt (blk_lt (g:=gb424) (o:=.cells #[.string a0_0,.slice A0_1 l0_1.length c0_1] 57 (0,0)) J80):gb425≠gb424));clear BK424;clear HB;have BK424:=n0_;have HB:=n1_;have BK425:=n2_;have GW425:=n3_;have GE425:=n4_;have NB424_425:=n5_;have NB425_424:=n6_;clear n0_ n1_ n2_ n3_ n4_ n5_ n6_;clear hb hbox hg;have hnb12:=NB424_425.out;have hnc12:=NB425_424.out;have ⟨hcz13_0,hcz13_1,hfz13_0,hfz13_1⟩:=sq_box2 BK424.out;have ⟨hcz14_0,hcz14_1,hfz14_0,hfz14_1⟩:=sq_box2 BK425.out))
  go_ret
  exact ⟨J21,J135⟩
 rw [if_pos c3] at H
 have c3b0:(a0_0.toList == a1_0.toList)=true:=beq_iff_eq.mpr c3
 have c3b1:(a0_0.toList != a1_0.toList)=false:=bne_eq_false_iff_eq.mpr c3
 clear c3
 replace H:=Y17.mp H
 obtain ⟨t426,A40,H⟩:=H
 try dsimp only at H
 have A4:=Y0 A40
 clear A40
 obtain rfl:=Option.some.inj H
 go_enter Tryz.func69,Tryz.ntmps69
 go_wp2_with (first|((with_reducible refine gate_dst (N:=2) rfl ?_);refine box_event ?hg (N:=2) ?hd (cs:=#[.string a0_0,.slice A0_1 l0_1.length c0_1]) (t:=57) ?hr ?_;(case hd=>rfl);(case hg=>rfl);(case hr=>first|(go_simp;done)|(go_simp;rfl));intro gb424 hg w5 hbox hb;have n0_:=Y0 (below_step J4 hb);have n1_:=Y0 (hbox);have n2_:=Y0 ((by rw [hg];exact (below_size J4):w.heap.size≤gb424));have n3_:=Y0 ((by rw [hg];exact (below_size J4):w.heap.size≤gb424));clear HB;have HB:=n0_;have BK424:=n1_;have GW424:=n2_;have GE424:=n3_;clear n0_ n1_ n2_ n3_;clear hb hbox hg)|((with_reducible refine gate_dst (N:=3) rfl ?_);refine box_event ?hg (N:=3) ?hd (cs:=#[.string a1_0,.slice A1_1 l1_1.length c1_1]) (t:=57) ?hr ?_;(case hd=>rfl);(case hg=>rfl);(case hr=>first|(go_simp;done)|(go_simp;rfl));intro gb425 hg w6 hbox hb;have n0_:=Y0 (blk_below (g:=gb424) (o:=.cells #[.string a0_0,.slice A0_1 l0_1.length c0_1] 57 (0,0)) J80 hb);have n1_:=Y0 (below_step J71 hb);have n2_:=Y0 (hbox);have n3_:=Y0 ((by rw [hg];exact (below_size J71):w.heap.size≤gb425));have n4_:=Y0 ((by rw [hg];exact (below_size J71):w.heap.size≤gb425));have n5_:=Y0 ((by rw [hg];exact Nat.ne_of_lt (blk_lt (g:=gb424) (o:=.cells #[.string a0_0,.slice A0_1 l0_1.length c0_1] 57 (0,0)) J80):gb424≠gb425));have n6_:=Y0 ((by rw [hg];exact Nat.ne_of_gt (blk_lt (g:=gb424) (o:=.cells #[.string a0_0,.slice A0_1 l0_1.length c0_1] 57 (0,0)) J80):gb425≠gb424));clear BK424;clear HB;have BK424:=n0_;have HB:=n1_;have BK425:=n2_;have GW425:=n3_;have GE425:=n4_;have NB424_425:=n5_;have NB425_424:=n6_;clear n0_ n1_ n2_ n3_ n4_ n5_ n6_;clear hb hbox hg;have hnb7:=NB424_425.out;have hnc7:=NB425_424.out;have ⟨hcz8_0,hcz8_1,hfz8_0,hfz8_1⟩:=sq_box2 BK424.out;have ⟨hcz9_0,hcz9_1,hfz9_0,hfz9_1⟩:=sq_box2 BK425.out)|(go_at_call 70;(with_reducible refine (api_FieldDef.calls k _ _ l0_1 _ _ l1_1 t426 _ ?side1 ?side2 ?side3 ?side4 A4.out).mono ?_);(case side1=>repeat (first|exact (Kd.C_below HR0_1.out HB.out)|(with_reducible refine Y8 ?_ _)|(with_reducible refine Kd.C_drewN ?_ _)|(with_reducible refine Kd.C_drew ?_)));(case side2=>exact HC0_1.out);(case side3=>repeat (first|exact (Kd.C_below HR1_1.out HB.out)|(with_reducible refine Y8 ?_ _)|(with_reducible refine Kd.C_drewN ?_ _)|(with_reducible refine Kd.C_drew ?_)));(case side4=>exact HC1_1.out);rintro e w' ⟨rfl,⟨nd,rfl⟩⟩))
 go_ret
 exact ⟨J21,J135⟩
def table_Same_2.f (k:Nat) (a0_0:ByteArray) (l0_1:List ByteArray) (l0_2:List Int) (a1_0:ByteArray) (l1_1:List ByteArray) (l1_2:List Int):Option (Bool):=if a0_0.toList=a1_0.toList then ((slices_Equal_string_string.f k l0_1 l1_1).bind fun t429=>(if t429=true then ((slices_Equal_int64_int64.f k l0_2 l1_2).bind fun t430=>(some t430)) else (some false))) else (some false)
set_option maxHeartbeats 8000000 in
set_option maxRecDepth 100000 in
theorem table_Same_2.calls (k:Nat) (a0_0:ByteArray) (A0_1:Option Addr) (c0_1:Nat) (l0_1:List ByteArray) (A0_2:Option Addr) (c0_2:Nat) (l0_2:List Int) (a1_0:ByteArray) (A1_1:Option Addr) (c1_1:Nat) (l1_1:List ByteArray) (A1_2:Option Addr) (c1_2:Nat) (l1_2:List Int) (r:Bool) (w:World) (hr0_1:Kd.C Kd.string w A0_1 l0_1.length l0_1) (hc0_1:l0_1.length≤c0_1) (hr0_2:Kd.C (Kd.int .i64) w A0_2 l0_2.length l0_2) (hc0_2:l0_2.length≤c0_2) (hr1_1:Kd.C Kd.string w A1_1 l1_1.length l1_1) (hc1_1:l1_1.length≤c1_1) (hr1_2:Kd.C (Kd.int .i64) w A1_2 l1_2.length l1_2) (hc1_2:l1_2.length≤c1_2) (h:table_Same_2.f k a0_0 l0_1 l0_2 a1_0 l1_1 l1_2=some r) :
  Calls Tryz.prog 71 #[.agg #[.string a0_0,.slice A0_1 l0_1.length c0_1,.slice A0_2 l0_2.length c0_2],.agg #[.string a1_0,.slice A1_1 l1_1.length c1_1,.slice A1_2 l1_2.length c1_2]] w fun e w'=>e = .returned (.bool r)∧Below w.heap.size w w':=by
 have hu119:=Tryz.underlying119
 have HR0_1:=Y0 hr0_1
 have HC0_1:=Y0 hc0_1
 clear hr0_1 hc0_1
 have HR0_2:=Y0 hr0_2
 have HC0_2:=Y0 hc0_2
 clear hr0_2 hc0_2
 have HR1_1:=Y0 hr1_1
 have HC1_1:=Y0 hc1_1
 clear hr1_1 hc1_1
 have HR1_2:=Y0 hr1_2
 have HC1_2:=Y0 hc1_2
 clear hr1_2 hc1_2
 have HB:=Y0 (Below.refl w.heap.size w)
 have H:(if a0_0.toList=a1_0.toList then ((slices_Equal_string_string.f k l0_1 l1_1).bind fun t429=>(if t429=true then ((slices_Equal_int64_int64.f k l0_2 l1_2).bind fun t430=>(some t430)) else (some false))) else (some false))=some r:=h
 clear h
 by_cases c3:a0_0.toList=a1_0.toList
 rotate_left
 ·rw [if_neg c3] at H
  have c3b0:(a0_0.toList == a1_0.toList)=false:=beq_eq_false_iff_ne.mpr c3
  have c3b1:(a0_0.toList != a1_0.toList)=true:=bne_iff_ne.mpr c3
  obtain rfl:=Option.some.inj H
  go_enter Tryz.func71,Tryz.ntmps71
  go_wp2_with (first|((with_reducible refine gate_dst (N:=2) rfl ?_);refine box_event ?hg (N:=2) ?hd (cs:=#[.string a0_0,.slice A0_1 l0_1.length c0_1,.slice A0_2 l0_2.length c0_2]) (t:=119) ?hr ?_;(case hd=>rfl);(case hg=>rfl);(case hr=>first|(go_simp;done)|(go_simp;rfl));intro gb427 hg w17 hbox hb;have n0_:=Y0 (below_step J4 hb);have n1_:=Y0 (hbox);have n2_:=Y0 ((by rw [hg];exact (below_size J4):w.heap.size≤gb427));have n3_:=Y0 ((by rw [hg];exact (below_size J4):w.heap.size≤gb427));clear HB;have HB:=n0_;have BK427:=n1_;have GW427:=n2_;have GE427:=n3_;clear n0_ n1_ n2_ n3_;clear hb hbox hg)|((with_reducible refine gate_dst (N:=3) rfl ?_);refine box_event ?hg (N:=3) ?hd (cs:=#[.string a1_0,.slice A1_1 l1_1.length c1_1,.slice A1_2 l1_2.length c1_2]) (t:=119) ?hr ?_;(case hd=>rfl);(case hg=>rfl);(case hr=>first|(go_simp;done)|(go_simp;rfl));intro gb428 hg w18 hbox hb;have n0_:=Y0 (blk_below (g:=gb427) (o:=.cells #[.string a0_0,.slice A0_1 l0_1.length c0_1,.slice A0_2 l0_2.length c0_2] 119 (0,0)) J57 hb);have n1_:=Y0 (below_step J52 hb);have n2_:=Y0 (hbox);have n3_:=Y0 ((by rw [hg];exact (below_size J52):w.heap.size≤gb428));have n4_:=Y0 ((by rw [hg];exact (below_size J52):w.heap.size≤gb428));have n5_:=Y0 ((by rw [hg];exact Nat.ne_of_lt (blk_lt (g:=gb427) (o:=.cells #[.string a0_0,.slice A0_1 l0_1.length c0_1,.slice A0_2 l0_2.length c0_2] 119 (0,0)) J57):gb427≠gb428));have n6_:=Y0 ((by rw [hg];exact Nat.ne_of_gt (blk_lt (g:=gb427) (o:=.cells #[.string a0_0,.slice A0_1 l0_1.length c0_1,.slice A0_2 l0_2.length c0_2] 119 (0,0)) J57):gb428≠gb427));clear BK427;clear HB;have BK427:=n0_;have HB:=n1_;have BK428:=n2_;have GW428:=n3_;have GE428:=n4_;have NB427_428:=n5_;have NB428_427:=n6_;clear n0_ n1_ n2_ n3_ n4_ n5_ n6_;clear hb hbox hg;have hnb19:=NB427_428.out;have hnc19:=NB428_427.out;have ⟨hcz20_0,hcz20_1,hcz20_2,hfz20_0,hfz20_1,hfz20_2⟩:=sq_box3 BK427.out;have ⟨hcz21_0,hcz21_1,hcz21_2,hfz21_0,hfz21_1,hfz21_2⟩:=sq_box3 BK428.out))
  go_ret
  exact ⟨J21,J72⟩
 rw [if_pos c3] at H
 have c3b0:(a0_0.toList == a1_0.toList)=true:=beq_iff_eq.mpr c3
 have c3b1:(a0_0.toList != a1_0.toList)=false:=bne_eq_false_iff_eq.mpr c3
 clear c3
 replace H:=Y17.mp H
 obtain ⟨t429,A40,H⟩:=H
 try dsimp only at H
 have A4:=Y0 A40
 clear A40
 by_cases c5:t429=true
 rotate_left
 ·replace c5:=Bool.eq_false_iff.mpr c5
  subst c5
  rw [if_neg (show ¬ (false=true) by decide)] at H
  obtain rfl:=Option.some.inj H
  go_enter Tryz.func71,Tryz.ntmps71
  go_wp2_with (first|((with_reducible refine gate_dst (N:=2) rfl ?_);refine box_event ?hg (N:=2) ?hd (cs:=#[.string a0_0,.slice A0_1 l0_1.length c0_1,.slice A0_2 l0_2.length c0_2]) (t:=119) ?hr ?_;(case hd=>rfl);(case hg=>rfl);(case hr=>first|(go_simp;done)|(go_simp;rfl));intro gb427 hg w12 hbox hb;have n0_:=Y0 (below_step J4 hb);have n1_:=Y0 (hbox);have n2_:=Y0 ((by rw [hg];exact (below_size J4):w.heap.size≤gb427));have n3_:=Y0 ((by rw [hg];exact (below_size J4):w.heap.size≤gb427));clear HB;have HB:=n0_;have BK427:=n1_;have GW427:=n2_;have GE427:=n3_;clear n0_ n1_ n2_ n3_;clear hb hbox hg)|((with_reducible refine gate_dst (N:=3) rfl ?_);refine box_event ?hg (N:=3) ?hd (cs:=#[.string a1_0,.slice A1_1 l1_1.length c1_1,.slice A1_2 l1_2.length c1_2]) (t:=119) ?hr ?_;(case hd=>rfl);(case hg=>rfl);(case hr=>first|(go_simp;done)|(go_simp;rfl));intro gb428 hg w13 hbox hb;have n0_:=Y0 (blk_below (g:=gb427) (o:=.cells #[.string a0_0,.slice A0_1 l0_1.length c0_1,.slice A0_2 l0_2.length c0_2] 119 (0,0)) J57 hb);have n1_:=Y0 (below_step J52 hb);have n2_:=Y0 (hbox);have n3_:=Y0 ((by rw [hg];exact (below_size J52):w.heap.size≤gb428));have n4_:=Y0 ((by rw [hg];exact (below_size J52):w.heap.size≤gb428));have n5_:=Y0 ((by rw [hg];exact Nat.ne_of_lt (blk_lt (g:=gb427) (o:=.cells #[.string a0_0,.slice A0_1 l0_1.length c0_1,.slice A0_2 l0_2.length c0_2] 119 (0,0)) J57):gb427≠gb428));have n6_:=Y0 ((by rw [hg];exact Nat.ne_of_gt (blk_lt (g:=gb427) (o:=.cells #[.string a0_0,.slice A0_1 l0_1.length c0_1,.slice A0_2 l0_2.length c0_2] 119 (0,0)) J57):gb428≠gb427));clear BK427;clear HB;have BK427:=n0_;have HB:=n1_;have BK428:=n2_;have GW428:=n3_;have GE428:=n4_;have NB427_428:=n5_;have NB428_427:=n6_;clear n0_ n1_ n2_ n3_ n4_ n5_ n6_;clear hb hbox hg;have hnb14:=NB427_428.out;have hnc14:=NB428_427.out;have ⟨hcz15_0,hcz15_1,hcz15_2,hfz15_0,hfz15_1,hfz15_2⟩:=sq_box3 BK427.out;have ⟨hcz16_0,hcz16_1,hcz16_2,hfz16_0,hfz16_1,hfz16_2⟩:=sq_box3 BK428.out)|(go_at_call 48;(with_reducible refine (slices_Equal_string_string.calls k _ _ l0_1 _ _ l1_1 false _ ?side1 ?side2 ?side3 ?side4 A4.out).mono ?_);(case side1=>repeat (first|exact (Kd.C_below HR0_1.out HB.out)|(with_reducible refine Y8 ?_ _)|(with_reducible refine Kd.C_drewN ?_ _)|(with_reducible refine Kd.C_drew ?_)));(case side2=>exact HC0_1.out);(case side3=>repeat (first|exact (Kd.C_below HR1_1.out HB.out)|(with_reducible refine Y8 ?_ _)|(with_reducible refine Kd.C_drewN ?_ _)|(with_reducible refine Kd.C_drew ?_)));(case side4=>exact HC1_1.out);rintro e w' ⟨rfl,⟨nd,rfl⟩⟩))
  go_ret
  exact ⟨J21,J72⟩
 subst c5
 rw [if_pos rfl] at H
 replace H:=Y17.mp H
 obtain ⟨t430,A60,H⟩:=H
 try dsimp only at H
 have A6:=Y0 A60
 clear A60
 obtain rfl:=Option.some.inj H
 go_enter Tryz.func71,Tryz.ntmps71
 go_wp2_with (first|((with_reducible refine gate_dst (N:=2) rfl ?_);refine box_event ?hg (N:=2) ?hd (cs:=#[.string a0_0,.slice A0_1 l0_1.length c0_1,.slice A0_2 l0_2.length c0_2]) (t:=119) ?hr ?_;(case hd=>rfl);(case hg=>rfl);(case hr=>first|(go_simp;done)|(go_simp;rfl));intro gb427 hg w7 hbox hb;have n0_:=Y0 (below_step J4 hb);have n1_:=Y0 (hbox);have n2_:=Y0 ((by rw [hg];exact (below_size J4):w.heap.size≤gb427));have n3_:=Y0 ((by rw [hg];exact (below_size J4):w.heap.size≤gb427));clear HB;have HB:=n0_;have BK427:=n1_;have GW427:=n2_;have GE427:=n3_;clear n0_ n1_ n2_ n3_;clear hb hbox hg)|((with_reducible refine gate_dst (N:=3) rfl ?_);refine box_event ?hg (N:=3) ?hd (cs:=#[.string a1_0,.slice A1_1 l1_1.length c1_1,.slice A1_2 l1_2.length c1_2]) (t:=119) ?hr ?_;(case hd=>rfl);(case hg=>rfl);(case hr=>first|(go_simp;done)|(go_simp;rfl));intro gb428 hg w8 hbox hb;have n0_:=Y0 (blk_below (g:=gb427) (o:=.cells #[.string a0_0,.slice A0_1 l0_1.length c0_1,.slice A0_2 l0_2.length c0_2] 119 (0,0)) J57 hb);have n1_:=Y0 (below_step J52 hb);have n2_:=Y0 (hbox);have n3_:=Y0 ((by rw [hg];exact (below_size J52):w.heap.size≤gb428));have n4_:=Y0 ((by rw [hg];exact (below_size J52):w.heap.size≤gb428));have n5_:=Y0 ((by rw [hg];exact Nat.ne_of_lt (blk_lt (g:=gb427) (o:=.cells #[.string a0_0,.slice A0_1 l0_1.length c0_1,.slice A0_2 l0_2.length c0_2] 119 (0,0)) J57):gb427≠gb428));have n6_:=Y0 ((by rw [hg];exact Nat.ne_of_gt (blk_lt (g:=gb427) (o:=.cells #[.string a0_0,.slice A0_1 l0_1.length c0_1,.slice A0_2 l0_2.length c0_2] 119 (0,0)) J57):gb428≠gb427));clear BK427;clear HB;have BK427:=n0_;have HB:=n1_;have BK428:=n2_;have GW428:=n3_;have GE428:=n4_;have NB427_428:=n5_;have NB428_427:=n6_;clear n0_ n1_ n2_ n3_ n4_ n5_ n6_;clear hb hbox hg;have hnb9:=NB427_428.out;have hnc9:=NB428_427.out;have ⟨hcz10_0,hcz10_1,hcz10_2,hfz10_0,hfz10_1,hfz10_2⟩:=sq_box3 BK427.out;have ⟨hcz11_0,hcz11_1,hcz11_2,hfz11_0,hfz11_1,hfz11_2⟩:=sq_box3 BK428.out)|(go_at_call 48;(with_reducible refine (slices_Equal_string_string.calls k _ _ l0_1 _ _ l1_1 true _ ?side1 ?side2 ?side3 ?side4 A4.out).mono ?_);(case side1=>repeat (first|exact (Kd.C_below HR0_1.out HB.out)|(with_reducible refine Y8 ?_ _)|(with_reducible refine Kd.C_drewN ?_ _)|(with_reducible refine Kd.C_drew ?_)));(case side2=>exact HC0_1.out);(case side3=>repeat (first|exact (Kd.C_below HR1_1.out HB.out)|(with_reducible refine Y8 ?_ _)|(with_reducible refine Kd.C_drewN ?_ _)|(with_reducible refine Kd.C_drew ?_)));(case side4=>exact HC1_1.out);rintro e w' ⟨rfl,⟨nd,rfl⟩⟩)|(go_at_call 49;(with_reducible refine (slices_Equal_int64_int64.calls k _ _ l0_2 _ _ l1_2 t430 _ ?side1 ?side2 ?side3 ?side4 A6.out).mono ?_);(case side1=>repeat (first|exact (Kd.C_below HR0_2.out J72)|(with_reducible refine Y8 ?_ _)|(with_reducible refine Kd.C_drewN ?_ _)|(with_reducible refine Kd.C_drew ?_)));(case side2=>exact HC0_2.out);(case side3=>repeat (first|exact (Kd.C_below HR1_2.out J72)|(with_reducible refine Y8 ?_ _)|(with_reducible refine Kd.C_drewN ?_ _)|(with_reducible refine Kd.C_drew ?_)));(case side4=>exact HC1_2.out);rintro e w' ⟨rfl,⟨nd,rfl⟩⟩))
 go_ret
 exact ⟨J21,J72⟩
def strEq (a b:ByteArray):Bool:=a.toList == b.toList
def intEq (a b:Int):Bool:=a == b
theorem equal_s (l m:List ByteArray) (h:l.length=m.length) (hb:l.length≤9223372036854775807):∀ n i:Nat,i + n=l.length→slices_Equal_string_string.l0 (n + 1) l m (l.length:Int) (i:Int)=some (allEq strEq (l.drop i) (m.drop i))
 | 0,i,hi=>by
  unfold slices_Equal_string_string.l0
  rw [if_neg J7,List.drop_of_length_le J7,List.drop_of_length_le J7]
  rfl
 | n + 1,i,hi=>by
  have h1:i < l.length:=by omega
  have h2:i < m.length:=by omega
  have r1:rdOf ByteArray.empty l (i:Int)=l[i]:=by unfold rdOf;simp [h1]
  have r2:rdOf ByteArray.empty m (i:Int)=m[i]:=by unfold rdOf;simp [h2]
  have hw:wrap64 ((i:Int) + 1)=((i + 1:Nat):Int):=by unfold wrap64;omega
  unfold slices_Equal_string_string.l0
  rw [if_pos J7,if_pos J7,if_pos J7,if_pos J7,r1,r2,hw,equal_s l m h hb n (i + 1) J7,allEq_step strEq l m i h1 h2]
  unfold strEq
  by_cases e:l[i].toList=m[i].toList
  ·rw [if_pos e,e];simp
  ·rw [if_neg e]
   have:(l[i].toList == m[i].toList)=false:=beq_eq_false_iff_ne.2 e
   rw [this,Bool.false_and]
theorem equal_S (l m:List ByteArray) (hb:l.length≤9223372036854775807):slices_Equal_string_string.f (l.length + 1) l m=some (allEq strEq l m):=by
 unfold slices_Equal_string_string.f
 by_cases h:l.length=m.length
 ·rw [if_pos J7]
  exact equal_s l m h hb l.length 0 J7
 ·rw [if_neg J7,allEq_len strEq l m h]
theorem equal_i (l m:List Int) (h:l.length=m.length) (hb:l.length≤9223372036854775807):∀ n i:Nat,i + n=l.length→slices_Equal_int64_int64.l0 (n + 1) l m (l.length:Int) (i:Int)=some (allEq intEq (l.drop i) (m.drop i))
 | 0,i,hi=>by
  unfold slices_Equal_int64_int64.l0
  rw [if_neg J7,List.drop_of_length_le J7,List.drop_of_length_le J7]
  rfl
 | n + 1,i,hi=>by
  have h1:i < l.length:=by omega
  have h2:i < m.length:=by omega
  have r1:rd l (i:Int)=l[i]:=by unfold rd;simp [h1]
  have r2:rd m (i:Int)=m[i]:=by unfold rd;simp [h2]
  have hw:wrap64 ((i:Int) + 1)=((i + 1:Nat):Int):=by unfold wrap64;omega
  unfold slices_Equal_int64_int64.l0
  rw [if_pos J7,if_pos J7,if_pos J7,if_pos J7,r1,r2,hw,equal_i l m h hb n (i + 1) J7,allEq_step intEq l m i h1 h2]
  unfold intEq
  by_cases e:l[i]=m[i]
  ·rw [if_pos e,e];simp
  ·rw [if_neg e]
   have:(l[i] == m[i])=false:=beq_eq_false_iff_ne.2 e
   rw [this,Bool.false_and]
theorem equal_I (l m:List Int) (hb:l.length≤9223372036854775807):slices_Equal_int64_int64.f (l.length + 1) l m=some (allEq intEq l m):=by
 unfold slices_Equal_int64_int64.f
 by_cases h:l.length=m.length
 ·rw [if_pos J7]
  exact equal_i l m h hb l.length 0 J7
 ·rw [if_neg J7,allEq_len intEq l m h]
def fdEq (x y:S51):Bool:=x.f0 == y.f0 && (x.f1.toList == y.f1.toList && (x.f2 == y.f2 && (x.f3 == y.f3 && (x.f4 == y.f4 && (x.f5 == y.f5 && x.f6 == y.f6)))))
def sameMD (x y:S57):Bool:=if x.f0.toList=y.f0.toList then allEq fdEq x.f1 y.f1 else false
def sameED (x y:S119):Bool:=if x.f0.toList=y.f0.toList then (allEq strEq x.f1 y.f1 && allEq intEq x.f2 y.f2) else false
theorem equal_f (l m:List (S51)) (h:l.length=m.length) (hb:l.length≤9223372036854775807):∀ n i:Nat,i + n=l.length→∀ k,n < k→api_FieldDef.l0 k l m (l.length:Int) (i:Int)=some (allEq fdEq (l.drop i) (m.drop i)):=by
 intro n
 induction n with
 | zero =>
  intro i hi k hk
  obtain ⟨k,rfl⟩:∃ q,k=q + 1:=⟨k - 1,J7⟩
  unfold api_FieldDef.l0
  rw [if_neg J7,List.drop_of_length_le J7,List.drop_of_length_le J7]
  rfl
 | succ n ih =>
  intro i hi k hk
  obtain ⟨k,rfl⟩:∃ q,k=q + 1:=⟨k - 1,J7⟩
  have h1:i < l.length:=by omega
  have h2:i < m.length:=by omega
  have r1:rd_T51 l (i:Int)=l[i]:=by unfold rd_T51;simp [h1]
  have r2:rd_T51 m (i:Int)=m[i]:=by unfold rd_T51;simp [h2]
  have hw:wrap64 ((i:Int) + 1)=((i + 1:Nat):Int):=by unfold wrap64;omega
  unfold api_FieldDef.l0
  rw [if_pos J7,if_pos J7,if_pos J7,if_pos J7,r1,r2,hw,ih (i + 1) J7 k J7,allEq_step fdEq l m i h1 h2]
  have e:(!(l[i].f0 == m[i].f0) || (!(l[i].f1.toList == m[i].f1.toList) || (!(l[i].f2 == m[i].f2) || (!(l[i].f3 == m[i].f3) || (!(l[i].f4 == m[i].f4) || (!(l[i].f5 == m[i].f5) || (!(l[i].f6 == m[i].f6))))))))=!(fdEq l[i] m[i]):=by unfold fdEq;simp [Bool.not_and]
  rw [e]
  cases fdEq l[i] m[i] <;> simp
theorem equal_F (l m:List (S51)) (hb:l.length≤9223372036854775807) (k:Nat) (hk:l.length < k):api_FieldDef.f k l m=some (allEq fdEq l m):=by
 unfold api_FieldDef.f
 by_cases h:l.length=m.length
 ·rw [if_pos J7]
  exact equal_f l m h hb l.length 0 J7 k hk
 ·rw [if_neg J7,allEq_len fdEq l m h]
theorem equal_Sk (l m:List ByteArray) (hb:l.length≤9223372036854775807):∀ d,slices_Equal_string_string.f (l.length + 1 + d) l m=some (allEq strEq l m)
 | 0=>equal_S l m hb
 | d + 1=>slices_Equal_string_string.mono _ _ _ _ (equal_Sk l m hb d)
theorem equal_Ik (l m:List Int) (hb:l.length≤9223372036854775807):∀ d,slices_Equal_int64_int64.f (l.length + 1 + d) l m=some (allEq intEq l m)
 | 0=>equal_I l m hb
 | d + 1=>slices_Equal_int64_int64.mono _ _ _ _ (equal_Ik l m hb d)
theorem same_md (x y:S57) (pA1 qA1:Option Addr) (pc1 qc1:Nat) (W:World) (pr1:Kd.C k51 W pA1 x.f1.length x.f1) (qr1:Kd.C k51 W qA1 y.f1.length y.f1) (pg1:x.f1.length≤pc1) (qg1:y.f1.length≤qc1) :
  Calls Tryz.prog 69 #[.agg #[.string x.f0,.slice pA1 x.f1.length pc1],.agg #[.string y.f0,.slice qA1 y.f1.length qc1]] W (SameT W (sameMD x y)) :=
 table_Same_1.calls (x.f1.length + 1) x.f0 pA1 pc1 x.f1 y.f0 qA1 qc1 y.f1 (sameMD x y) W pr1 pg1 qr1 qg1 (by unfold table_Same_1.f sameMD;split;(rw [equal_F _ _ (Kd.C_max pr1) _ (Nat.lt_succ_self _)];rfl);rfl)
theorem same_ed (x y:S119) (pA1 pA2 qA1 qA2:Option Addr) (pc1 pc2 qc1 qc2:Nat) (W:World) (pr1:Kd.C Kd.string W pA1 x.f1.length x.f1) (pr2:Kd.C (Kd.int .i64) W pA2 x.f2.length x.f2) (qr1:Kd.C Kd.string W qA1 y.f1.length y.f1) (qr2:Kd.C (Kd.int .i64) W qA2 y.f2.length y.f2) (pg1:x.f1.length≤pc1) (pg2:x.f2.length≤pc2) (qg1:y.f1.length≤qc1) (qg2:y.f2.length≤qc2) :
  Calls Tryz.prog 71 #[.agg #[.string x.f0,.slice pA1 x.f1.length pc1,.slice pA2 x.f2.length pc2],.agg #[.string y.f0,.slice qA1 y.f1.length qc1,.slice qA2 y.f2.length qc2]] W (SameT W (sameED x y)) :=
 table_Same_2.calls (x.f1.length + 1 + (x.f2.length + 1)) x.f0 pA1 pc1 x.f1 pA2 pc2 x.f2 y.f0 qA1 qc1 y.f1 qA2 qc2 y.f2 (sameED x y) W pr1 pg1 pr2 pg2 qr1 qg1 qr2 qg2 (by unfold table_Same_2.f sameED;split;(rw [equal_Sk _ _ (Kd.C_max pr1) _,show x.f1.length + 1 + (x.f2.length + 1)=x.f2.length + 1 + (x.f1.length + 1) from by omega,equal_Ik _ _ (Kd.C_max pr2) _];simp only [Option.bind_some];cases allEq strEq x.f1 y.f1 <;> simp);rfl)
set_option maxRecDepth 100000 in
set_option maxHeartbeats 4000000 in
theorem eqf_MD (l m:List (S57)) (A A2:Option Addr) (c c2:Nat) (w:World) (hC:k57.C w A l.length l) (hC2:k57.C w A2 m.length m) (hc:l.length≤c) (hc2:m.length≤c2) :
  Calls Tryz.prog 72 #[.slice A l.length c,.slice A2 m.length c2,.func (.func 69) #[] #[]] w (SameT w (allEq sameMD l m)):=by
 have HC:=Y0 hC
 have HC2:=Y0 hC2
 have hm1:=Kd.C_max hC
 have hm2:=Kd.C_max hC2
 clear hC hC2
 by_cases hlen:l.length=m.length
 ·have d1:((l.length:Int) != (m.length:Int))=false:=by rw [bne_eq_false_iff_eq];omega
  have HLEN:=Y0 hlen
  clear hlen
  go_enter Tryz.func72,Tryz.ntmps72
  go_wp2
  go_loopg [17] l.length (fun n v W=>∃ i:Nat,v = .int .i64 i∧Aside0 (allEq sameMD (l.drop i) (m.drop i)=allEq sameMD l m)∧Aside0 (Below w.heap.size w W)∧Aside0 (i + n=l.length))
  case atStart=>exact ⟨0,rfl,⟨rfl⟩,⟨Below.refl _ _⟩,⟨J7⟩⟩
  case round =>
   obtain ⟨i,rfl,HS,HB,HN⟩:=hrel
   by_cases hlt:i < l.length
   ·have hlt2:i < m.length:=by have:=HLEN.out;omega
    have HT:=Y0 ((allEq_step sameMD l m i hlt hlt2).symm.trans HS.out)
    clear HS
    have d3:(0:Int)≤(i:Int):=by omega
    have d4:(i:Int) < (l.length:Int):=by omega
    have d4':(i:Int) < (m.length:Int):=by omega
    obtain ⟨pad,pA1,pc1,phad,pz0,pz1,pg1,pr1⟩:=at_T57 HC.out i d3 d4
    obtain ⟨x,hx⟩:∃ x,x=l[i]'hlt:=⟨_,rfl⟩
    have phrd:rd_T57 l i=x:=by unfold rd_T57;rw [hx,List.getD_eq_getElem?_getD];simp [hlt,hlt2]
    rw [phrd] at pz0 pz1 pg1 pr1
    rw [Int.toNat_natCast] at pz0 pz1
    replace pz0:=(HB.out.cell (World.block_lt_of_cell? w _ pz0)).trans pz0
    replace pz1:=(HB.out.cell (World.block_lt_of_cell? w _ pz1)).trans pz1
    have pG1:=Y0 pg1
    have pR1:=Y0 pr1
    clear phrd pg1 pr1
    subst phad
    obtain ⟨qad,qA1,qc1,qhad,qz0,qz1,qg1,qr1⟩:=at_T57 HC2.out i d3 d4'
    obtain ⟨y,hy⟩:∃ y,y=m[i]'hlt2:=⟨_,rfl⟩
    have qhrd:rd_T57 m i=y:=by unfold rd_T57;rw [hy,List.getD_eq_getElem?_getD];simp [hlt,hlt2]
    rw [qhrd] at qz0 qz1 qg1 qr1
    rw [Int.toNat_natCast] at qz0 qz1
    replace qz0:=(HB.out.cell (World.block_lt_of_cell? w _ qz0)).trans qz0
    replace qz1:=(HB.out.cell (World.block_lt_of_cell? w _ qz1)).trans qz1
    have qG1:=Y0 qg1
    have qR1:=Y0 qr1
    clear qhrd qg1 qr1
    subst qhad
    have qz0':=pw_cell_below (below_alloc (Below.refl _ wr) (.cells #[.string x.f0,.slice pA1 x.f1.length pc1] 57 (0,0))) qz0
    have qz1':=pw_cell_below (below_alloc (Below.refl _ wr) (.cells #[.string x.f0,.slice pA1 x.f1.length pc1] 57 (0,0))) qz1
    clear qz0 qz1
    rw [← hx,← hy] at HT
    clear hx hy
    obtain ⟨b,hb⟩:∃ b,sameMD x y=b:=⟨_,rfl⟩
    rw [hb] at HT
    have HBX:=Y0 hb
    clear hb
    cases gk with
    | zero=>have:=HN.out;omega
    | succ k1 =>
     cases b
     ·have hF:Aside0 (false=allEq sameMD l m):=⟨by rw [← HT.out,Bool.false_and]⟩
      clear HT
      go_wp2_with (go_at_call 69;refine (HBX.out ▸ same_md x y _ _ _ _ _ (Kd.C_below pR1.out (below_alloc (below_alloc HB.out _) _)) (Kd.C_below qR1.out (below_alloc (below_alloc HB.out _) _)) pG1.out qG1.out).mono ?_;rintro e W1 ⟨rfl,hB1⟩)
      go_ret
      exact ⟨J122,below_step (below_alloc (below_alloc HB.out _) _) hB1⟩
     ·have hT:Aside0 (allEq sameMD (l.drop (i + 1)) (m.drop (i + 1))=allEq sameMD l m):=⟨by rw [← HT.out,Bool.true_and]⟩
      clear HT
      go_wp2_with (go_at_call 69;refine (HBX.out ▸ same_md x y _ _ _ _ _ (Kd.C_below pR1.out (below_alloc (below_alloc HB.out _) _)) (Kd.C_below qR1.out (below_alloc (below_alloc HB.out _) _)) pG1.out qG1.out).mono ?_;rintro e W1 ⟨rfl,hB1⟩)
      go_roundg k1
      case measure=>omega
      case rel=>exact ⟨i + 1,J112,hT,⟨below_step (below_alloc (below_alloc HB.out _) _) hB1⟩,⟨J105⟩⟩
   ·have hF:Aside0 (true=allEq sameMD l m):=⟨J142⟩
    clear HS
    go_wp2
    go_ret
    exact ⟨J122,HB.out⟩
 ·have d1:((l.length:Int) != (m.length:Int))=true:=by rw [bne_iff_ne];omega
  have HF:=Y0 (allEq_len sameMD l m hlen)
  clear hlen
  go_enter Tryz.func72,Tryz.ntmps72
  rw [HF.out]
  go_wp2
  go_ret
  exact ⟨rfl,Below.refl _ _⟩
set_option maxRecDepth 100000 in
set_option maxHeartbeats 4000000 in
theorem eqf_ED (l m:List (S119)) (A A2:Option Addr) (c c2:Nat) (w:World) (hC:k119.C w A l.length l) (hC2:k119.C w A2 m.length m) (hc:l.length≤c) (hc2:m.length≤c2) :
  Calls Tryz.prog 73 #[.slice A l.length c,.slice A2 m.length c2,.func (.func 71) #[] #[]] w (SameT w (allEq sameED l m)):=by
 have HC:=Y0 hC
 have HC2:=Y0 hC2
 have hm1:=Kd.C_max hC
 have hm2:=Kd.C_max hC2
 clear hC hC2
 by_cases hlen:l.length=m.length
 ·have d1:((l.length:Int) != (m.length:Int))=false:=by rw [bne_eq_false_iff_eq];omega
  have HLEN:=Y0 hlen
  clear hlen
  go_enter Tryz.func73,Tryz.ntmps73
  go_wp2
  go_loopg [17] l.length (fun n v W=>∃ i:Nat,v = .int .i64 i∧Aside0 (allEq sameED (l.drop i) (m.drop i)=allEq sameED l m)∧Aside0 (Below w.heap.size w W)∧Aside0 (i + n=l.length))
  case atStart=>exact ⟨0,rfl,⟨rfl⟩,⟨Below.refl _ _⟩,⟨J7⟩⟩
  case round =>
   obtain ⟨i,rfl,HS,HB,HN⟩:=hrel
   by_cases hlt:i < l.length
   ·have hlt2:i < m.length:=by have:=HLEN.out;omega
    have HT:=Y0 ((allEq_step sameED l m i hlt hlt2).symm.trans HS.out)
    clear HS
    have d3:(0:Int)≤(i:Int):=by omega
    have d4:(i:Int) < (l.length:Int):=by omega
    have d4':(i:Int) < (m.length:Int):=by omega
    obtain ⟨pad,pA1,pc1,pA2,pc2,phad,pz0,pz1,pz2,pg1,pr1,pg2,pr2⟩:=at_T119 HC.out i d3 d4
    obtain ⟨x,hx⟩:∃ x,x=l[i]'hlt:=⟨_,rfl⟩
    have phrd:rd_T119 l i=x:=by unfold rd_T119;rw [hx,List.getD_eq_getElem?_getD];simp [hlt,hlt2]
    rw [phrd] at pz0 pz1 pz2 pg1 pr1 pg2 pr2
    rw [Int.toNat_natCast] at pz0 pz1 pz2
    replace pz0:=(HB.out.cell (World.block_lt_of_cell? w _ pz0)).trans pz0
    replace pz1:=(HB.out.cell (World.block_lt_of_cell? w _ pz1)).trans pz1
    replace pz2:=(HB.out.cell (World.block_lt_of_cell? w _ pz2)).trans pz2
    have pG1:=Y0 pg1
    have pR1:=Y0 pr1
    have pG2:=Y0 pg2
    have pR2:=Y0 pr2
    clear phrd pg1 pr1 pg2 pr2
    subst phad
    obtain ⟨qad,qA1,qc1,qA2,qc2,qhad,qz0,qz1,qz2,qg1,qr1,qg2,qr2⟩:=at_T119 HC2.out i d3 d4'
    obtain ⟨y,hy⟩:∃ y,y=m[i]'hlt2:=⟨_,rfl⟩
    have qhrd:rd_T119 m i=y:=by unfold rd_T119;rw [hy,List.getD_eq_getElem?_getD];simp [hlt,hlt2]
    rw [qhrd] at qz0 qz1 qz2 qg1 qr1 qg2 qr2
    rw [Int.toNat_natCast] at qz0 qz1 qz2
    replace qz0:=(HB.out.cell (World.block_lt_of_cell? w _ qz0)).trans qz0
    replace qz1:=(HB.out.cell (World.block_lt_of_cell? w _ qz1)).trans qz1
    replace qz2:=(HB.out.cell (World.block_lt_of_cell? w _ qz2)).trans qz2
    have qG1:=Y0 qg1
    have qR1:=Y0 qr1
    have qG2:=Y0 qg2
    have qR2:=Y0 qr2
    clear qhrd qg1 qr1 qg2 qr2
    subst qhad
    have qz0':=pw_cell_below (below_alloc (Below.refl _ wr) (.cells #[.string x.f0,.slice pA1 x.f1.length pc1,.slice pA2 x.f2.length pc2] 119 (0,0))) qz0
    have qz1':=pw_cell_below (below_alloc (Below.refl _ wr) (.cells #[.string x.f0,.slice pA1 x.f1.length pc1,.slice pA2 x.f2.length pc2] 119 (0,0))) qz1
    have qz2':=pw_cell_below (below_alloc (Below.refl _ wr) (.cells #[.string x.f0,.slice pA1 x.f1.length pc1,.slice pA2 x.f2.length pc2] 119 (0,0))) qz2
    clear qz0 qz1 qz2
    rw [← hx,← hy] at HT
    clear hx hy
    obtain ⟨b,hb⟩:∃ b,sameED x y=b:=⟨_,rfl⟩
    rw [hb] at HT
    have HBX:=Y0 hb
    clear hb
    cases gk with
    | zero=>have:=HN.out;omega
    | succ k1 =>
     cases b
     ·have hF:Aside0 (false=allEq sameED l m):=⟨by rw [← HT.out,Bool.false_and]⟩
      clear HT
      go_wp2_with (go_at_call 71;refine (HBX.out ▸ same_ed x y _ _ _ _ _ _ _ _ _ (Kd.C_below pR1.out (below_alloc (below_alloc HB.out _) _)) (Kd.C_below pR2.out (below_alloc (below_alloc HB.out _) _)) (Kd.C_below qR1.out (below_alloc (below_alloc HB.out _) _)) (Kd.C_below qR2.out (below_alloc (below_alloc HB.out _) _)) pG1.out pG2.out qG1.out qG2.out).mono ?_;rintro e W1 ⟨rfl,hB1⟩)
      go_ret
      exact ⟨J122,below_step (below_alloc (below_alloc HB.out _) _) hB1⟩
     ·have hT:Aside0 (allEq sameED (l.drop (i + 1)) (m.drop (i + 1))=allEq sameED l m):=⟨by rw [← HT.out,Bool.true_and]⟩
      clear HT
      go_wp2_with (go_at_call 71;refine (HBX.out ▸ same_ed x y _ _ _ _ _ _ _ _ _ (Kd.C_below pR1.out (below_alloc (below_alloc HB.out _) _)) (Kd.C_below pR2.out (below_alloc (below_alloc HB.out _) _)) (Kd.C_below qR1.out (below_alloc (below_alloc HB.out _) _)) (Kd.C_below qR2.out (below_alloc (below_alloc HB.out _) _)) pG1.out pG2.out qG1.out qG2.out).mono ?_;rintro e W1 ⟨rfl,hB1⟩)
      go_roundg k1
      case measure=>omega
      case rel=>exact ⟨i + 1,J112,hT,⟨below_step (below_alloc (below_alloc HB.out _) _) hB1⟩,⟨J105⟩⟩
   ·have hF:Aside0 (true=allEq sameED l m):=⟨J142⟩
    clear HS
    go_wp2
    go_ret
    exact ⟨J122,HB.out⟩
 ·have d1:((l.length:Int) != (m.length:Int))=true:=by rw [bne_iff_ne];omega
  have HF:=Y0 (allEq_len sameED l m hlen)
  clear hlen
  go_enter Tryz.func73,Tryz.ntmps73
  rw [HF.out]
  go_wp2
  go_ret
  exact ⟨rfl,Below.refl _ _⟩
def sameSch (l0:List (S57)) (l1:List (S119)) (m0:List (S57)) (m1:List (S119)):Bool:=allEq sameMD l0 m0 && allEq sameED l1 m1
def table_Same.f (l0_0:List (S57)) (l0_1:List (S119)) (l1_0:List (S57)) (l1_1:List (S119)):Option Bool:=some (sameSch l0_0 l0_1 l1_0 l1_1)
set_option maxRecDepth 100000 in
set_option maxHeartbeats 4000000 in
theorem table_Same.calls (A0_0:Option Addr) (c0_0:Nat) (l0_0:List (S57)) (A0_1:Option Addr) (c0_1:Nat) (l0_1:List (S119)) (A1_0:Option Addr) (c1_0:Nat) (l1_0:List (S57)) (A1_1:Option Addr) (c1_1:Nat) (l1_1:List (S119)) (r:Bool) (w:World)
  (hr0_0:Kd.C k57 w A0_0 l0_0.length l0_0) (hc0_0:l0_0.length≤c0_0) (hr0_1:Kd.C k119 w A0_1 l0_1.length l0_1) (hc0_1:l0_1.length≤c0_1) (hr1_0:Kd.C k57 w A1_0 l1_0.length l1_0) (hc1_0:l1_0.length≤c1_0) (hr1_1:Kd.C k119 w A1_1 l1_1.length l1_1) (hc1_1:l1_1.length≤c1_1)
  (h:table_Same.f l0_0 l0_1 l1_0 l1_1=some r) :
  Calls Tryz.prog 24 #[.agg #[.slice A0_0 l0_0.length c0_0,.slice A0_1 l0_1.length c0_1],.agg #[.slice A1_0 l1_0.length c1_0,.slice A1_1 l1_1.length c1_1]] w fun e w'=>e = .returned (.bool r)∧Below w.heap.size w w':=by
 have HV2:=Y0 (Option.some.inj h)
 unfold sameSch at HV2
 have R0:=Y0 hr0_0
 have R1:=Y0 hr0_1
 have S0:=Y0 hr1_0
 have S1:=Y0 hr1_1
 clear hr0_0 hr0_1 hr1_0 hr1_1 h
 go_enter Tryz.func24,Tryz.ntmps24
 go_wp2_with fail
 have e0:(w.alloc (.cells #[.slice A0_0 l0_0.length c0_0,.slice A0_1 l0_1.length c0_1] 46 (0,0))).heap.size=w.heap.size + 1:=World.size_alloc _ _
 have q0:=blk_alloc (blk_new w (.cells #[.slice A0_0 l0_0.length c0_0,.slice A0_1 l0_1.length c0_1] 46 (0,0))) (.cells #[.slice A1_0 l1_0.length c1_0,.slice A1_1 l1_1.length c1_1] 46 (0,0))
 have q1:=blk_new (w.alloc (.cells #[.slice A0_0 l0_0.length c0_0,.slice A0_1 l0_1.length c0_1] 46 (0,0))) (.cells #[.slice A1_0 l1_0.length c1_0,.slice A1_1 l1_1.length c1_1] 46 (0,0))
 have qb:=below_step (below_alloc (Below.refl w.heap.size w) (.cells #[.slice A0_0 l0_0.length c0_0,.slice A0_1 l0_1.length c0_1] 46 (0,0))) (below_alloc (Below.refl _ (w.alloc (.cells #[.slice A0_0 l0_0.length c0_0,.slice A0_1 l0_1.length c0_1] 46 (0,0)))) (.cells #[.slice A1_0 l1_0.length c1_0,.slice A1_1 l1_1.length c1_1] 46 (0,0)))
 rw [e0] at q1
 generalize (w.alloc (.cells #[.slice A0_0 l0_0.length c0_0,.slice A0_1 l0_1.length c0_1] 46 (0,0))).alloc (.cells #[.slice A1_0 l1_0.length c1_0,.slice A1_1 l1_1.length c1_1] 46 (0,0))=V0 at *
 have HB0:=Y0 qb
 have HX0:=Y0 q0
 have HY0:=Y0 q1
 clear q0 q1 qb e0
 refine (eqf_MD l0_0 l1_0 A0_0 A1_0 c0_0 c1_0 V0 (Kd.C_below R0.out HB0.out) (Kd.C_below S0.out HB0.out) hc0_0 hc1_0).mono ?_
 rintro e1 W1 ⟨rfl,hB1⟩
 have HX1:=Y0 (blk_below HX0.out hB1)
 have HY1:=Y0 (blk_below HY0.out hB1)
 have HB1:=Y0 (below_step HB0.out hB1)
 clear HX0 HY0 HB0 hB1
 obtain ⟨b,hb⟩:∃ b,allEq sameMD l0_0 l1_0=b:=⟨_,rfl⟩
 rw [hb] at HV2 ⊢
 clear hb
 cases b
 ·go_wp2_with fail
  go_ret
  exact ⟨by rw [← HV2.out,Bool.false_and];rfl,HB1.out⟩
 ·have x1:W1.cell? ⟨w.heap.size,1,none⟩=some (.slice A0_1 l0_1.length c0_1):=(blk_cell HX1.out 1).trans rfl
  have y1:W1.cell? ⟨w.heap.size + 1,1,none⟩=some (.slice A1_1 l1_1.length c1_1):=(blk_cell HY1.out 1).trans rfl
  go_wp2_with fail
  clear x1 y1
  refine (eqf_ED l0_1 l1_1 A0_1 A1_1 c0_1 c1_1 _ (Kd.C_below R1.out HB1.out) (Kd.C_below S1.out HB1.out) hc0_1 hc1_1).mono ?_
  rintro e2 W2 ⟨rfl,hB2⟩
  have HB2:=Y0 (below_step HB1.out hB2)
  clear HX1 HY1 HB1 hB2
  obtain ⟨b,hb⟩:∃ b,allEq sameED l0_1 l1_1=b:=⟨_,rfl⟩
  rw [hb] at HV2 ⊢
  clear hb
  go_wp2_with fail
  go_ret
  exact ⟨by rw [← HV2.out,Bool.true_and];rfl,HB2.out⟩
def table_Type.f (a0:ByteArray):Option (Int × Bool):=if a0.size≤9223372036854775807 then some ((typO (bl a0)).getD 0,(typO (bl a0)).isSome) else none
theorem table_Type.calls (a0:ByteArray) (r1:Int) (r2:Bool) (w:World) (h:table_Type.f a0=some (r1,r2)) :
  Calls Tryz.prog 32 #[.string a0] w fun e w'=>e = .returned (.tuple #[.int .i64 r1,.bool r2])∧Below w.heap.size w w':=by
 unfold table_Type.f at h
 split at h
 ·rename_i hs
  simp only [Option.some.injEq,Prod.mk.injEq] at h
  obtain ⟨rfl,rfl⟩:=h
  have HS:=Y0 hs
  clear hs
  go_enter Tryz.func32,Tryz.ntmps32
  go_wp2_with fail
  refine (tplain_s _).mono ?_
  rintro e V1 ⟨rfl,hp,hb⟩
  have hl:=hp.look_ok (s:=a0) HS.out
  clear hp
  go_wp2
  go_ret2
  exact ⟨rfl,hb⟩
 ·cases h
end Go.Proofs.YtddpjjhekhompaaGreatDoor.P
