/- Part 9 of what the law TableOrder leans on: contracts of the functions that it reaches, and plain lemmas. No condition. -/
import Derived.Deep.Slices
import Derived.Test.YtddpjjhekhompaaGreatDoorMTableOrder8
namespace Go.Proofs.YtddpjjhekhompaaGreatDoor.P
open Go.RowKit Go.Proofs.YtddpjjhekhompaaGreatDoorW.PrintWords Go.Proofs.YtddpjjhekhompaaGreatDoorW.PrintLast Go.Proofs.YtddpjjhekhompaaGreatDoorW.PrintMore
set_option linter.unusedVariables false
set_option linter.unusedSimpArgs false
def table_Same_2.f (k:Nat) (a0_0:ByteArray) (l0_1:List ByteArray) (l0_2:List Int) (a1_0:ByteArray) (l1_1:List ByteArray) (l1_2:List Int):Option (Bool):=if a0_0.toList=a1_0.toList then ((slices_Equal_string_string.f k l0_1 l1_1).bind fun t429=>(if t429=true then ((slices_Equal_int64_int64.f k l0_2 l1_2).bind fun t430=>(some t430)) else (some false))) else (some false)
set_option maxHeartbeats 8000000 in
set_option maxRecDepth 100000 in
theorem table_Same_2.calls (k:Nat) (a0_0:ByteArray) (A0_1:Option Addr) (c0_1:Nat) (l0_1:List ByteArray) (A0_2:Option Addr) (c0_2:Nat) (l0_2:List Int) (a1_0:ByteArray) (A1_1:Option Addr) (c1_1:Nat) (l1_1:List ByteArray) (A1_2:Option Addr) (c1_2:Nat) (l1_2:List Int) (r:Bool) (w:World) (hr0_1:Kd.C Kd.string w A0_1 l0_1.length l0_1) (hc0_1:l0_1.length≤c0_1) (hr0_2:Kd.C (Kd.int .i64) w A0_2 l0_2.length l0_2) (hc0_2:l0_2.length≤c0_2) (hr1_1:Kd.C Kd.string w A1_1 l1_1.length l1_1) (hc1_1:l1_1.length≤c1_1) (hr1_2:Kd.C (Kd.int .i64) w A1_2 l1_2.length l1_2) (hc1_2:l1_2.length≤c1_2) (h:table_Same_2.f k a0_0 l0_1 l0_2 a1_0 l1_1 l1_2=some r) :
  Calls Tryz.prog 71 #[.agg #[.string a0_0,.slice A0_1 l0_1.length c0_1,.slice A0_2 l0_2.length c0_2],.agg #[.string a1_0,.slice A1_1 l1_1.length c1_1,.slice A1_2 l1_2.length c1_2]] w fun e w'=>e = .returned (.bool r)∧Below w.heap.size w w':=by
 have hu119:=Tryz.underlying119
 have HR0_1:=Y0 hr0_1
 have HC0_1:=Y0 hc0_1
 clear hr0_1 hc0_1
 have HR0_2:=Y0 hr0_2
 have HC0_2:=Y0 hc0_2
 clear hr0_2 hc0_2
 have HR1_1:=Y0 hr1_1
 have HC1_1:=Y0 hc1_1
 clear hr1_1 hc1_1
 have HR1_2:=Y0 hr1_2
 have HC1_2:=Y0 hc1_2
 clear hr1_2 hc1_2
 have HB:=Y0 (Below.refl w.heap.size w)
 have H:(if a0_0.toList=a1_0.toList then ((slices_Equal_string_string.f k l0_1 l1_1).bind fun t429=>(if t429=true then ((slices_Equal_int64_int64.f k l0_2 l1_2).bind fun t430=>(some t430)) else (some false))) else (some false))=some r:=h
 clear h
 by_cases c3:a0_0.toList=a1_0.toList
 rotate_left
 ·rw [if_neg c3] at H
  have c3b0:(a0_0.toList == a1_0.toList)=false:=beq_eq_false_iff_ne.mpr c3
  have c3b1:(a0_0.toList != a1_0.toList)=true:=bne_iff_ne.mpr c3
  obtain rfl:=Option.some.inj H
  go_enter Tryz.func71,Tryz.ntmps71
  go_wp2_with (first|((with_reducible refine gate_dst (N:=2) rfl ?_);refine box_event ?hg (N:=2) ?hd (cs:=#[.string a0_0,.slice A0_1 l0_1.length c0_1,.slice A0_2 l0_2.length c0_2]) (t:=119) ?hr ?_;(case hd=>rfl);(case hg=>rfl);(case hr=>first|(go_simp;done)|(go_simp;rfl));intro gb427 hg w17 hbox hb;have n0_:=Y0 (below_step (by repeat (with_reducible first|exact HB.out|apply Y3|apply Y1|apply Y2)) hb);have n1_:=Y0 (hbox);have n2_:=Y0 ((by rw [hg];exact (below_size (by repeat (with_reducible first|exact HB.out|apply Y3|apply Y1|apply Y2))):w.heap.size≤gb427));have n3_:=Y0 ((by rw [hg];exact (below_size (by repeat (with_reducible first|exact HB.out|apply Y3|apply Y1|apply Y2))):w.heap.size≤gb427));clear HB;have HB:=n0_;have BK427:=n1_;have GW427:=n2_;have GE427:=n3_;clear n0_ n1_ n2_ n3_;clear hb hbox hg)|((with_reducible refine gate_dst (N:=3) rfl ?_);refine box_event ?hg (N:=3) ?hd (cs:=#[.string a1_0,.slice A1_1 l1_1.length c1_1,.slice A1_2 l1_2.length c1_2]) (t:=119) ?hr ?_;(case hd=>rfl);(case hg=>rfl);(case hr=>first|(go_simp;done)|(go_simp;rfl));intro gb428 hg w18 hbox hb;have n0_:=Y0 (blk_below (g:=gb427) (o:=.cells #[.string a0_0,.slice A0_1 l0_1.length c0_1,.slice A0_2 l0_2.length c0_2] 119 (0,0)) (by (with_reducible repeat first|apply Y11|apply Y13|apply Y12);exact BK427.out) hb);have n1_:=Y0 (below_step (by repeat (with_reducible first|exact HB.out|apply Y3|apply Y1|apply Y2|refine Y4 ?_ GE427.out)) hb);have n2_:=Y0 (hbox);have n3_:=Y0 ((by rw [hg];exact (below_size (by repeat (with_reducible first|exact HB.out|apply Y3|apply Y1|apply Y2|refine Y4 ?_ GE427.out))):w.heap.size≤gb428));have n4_:=Y0 ((by rw [hg];exact (below_size (by repeat (with_reducible first|exact HB.out|apply Y3|apply Y1|apply Y2|refine Y4 ?_ GE427.out))):w.heap.size≤gb428));have n5_:=Y0 ((by rw [hg];exact Nat.ne_of_lt (blk_lt (g:=gb427) (o:=.cells #[.string a0_0,.slice A0_1 l0_1.length c0_1,.slice A0_2 l0_2.length c0_2] 119 (0,0)) (by (with_reducible repeat first|apply Y11|apply Y13|apply Y12);exact BK427.out)):gb427≠gb428));have n6_:=Y0 ((by rw [hg];exact Nat.ne_of_gt (blk_lt (g:=gb427) (o:=.cells #[.string a0_0,.slice A0_1 l0_1.length c0_1,.slice A0_2 l0_2.length c0_2] 119 (0,0)) (by (with_reducible repeat first|apply Y11|apply Y13|apply Y12);exact BK427.out)):gb428≠gb427));clear BK427;clear HB;have BK427:=n0_;have HB:=n1_;have BK428:=n2_;have GW428:=n3_;have GE428:=n4_;have NB427_428:=n5_;have NB428_427:=n6_;clear n0_ n1_ n2_ n3_ n4_ n5_ n6_;clear hb hbox hg;have hnb19:=NB427_428.out;have hnc19:=NB428_427.out;have ⟨hcz20_0,hcz20_1,hcz20_2,hfz20_0,hfz20_1,hfz20_2⟩:=sq_box3 BK427.out;have ⟨hcz21_0,hcz21_1,hcz21_2,hfz21_0,hfz21_1,hfz21_2⟩:=sq_box3 BK428.out))
  go_ret
  exact ⟨by first|rfl|(simp [] <;> rfl)|(simp [*] <;> rfl),by repeat (with_reducible first|exact HB.out|apply Y3|apply Y1|apply Y2|refine Y4 ?_ GE427.out|refine Y4 ?_ GE428.out)⟩
 rw [if_pos c3] at H
 have c3b0:(a0_0.toList == a1_0.toList)=true:=beq_iff_eq.mpr c3
 have c3b1:(a0_0.toList != a1_0.toList)=false:=bne_eq_false_iff_eq.mpr c3
 clear c3
 replace H:=Y17.mp H
 obtain ⟨t429,A40,H⟩:=H
 try dsimp only at H
 have A4:=Y0 A40
 clear A40
 by_cases c5:t429=true
 rotate_left
 ·replace c5:=Bool.eq_false_iff.mpr c5
  subst c5
  rw [if_neg (show ¬ (false=true) by decide)] at H
  obtain rfl:=Option.some.inj H
  go_enter Tryz.func71,Tryz.ntmps71
  go_wp2_with (first|((with_reducible refine gate_dst (N:=2) rfl ?_);refine box_event ?hg (N:=2) ?hd (cs:=#[.string a0_0,.slice A0_1 l0_1.length c0_1,.slice A0_2 l0_2.length c0_2]) (t:=119) ?hr ?_;(case hd=>rfl);(case hg=>rfl);(case hr=>first|(go_simp;done)|(go_simp;rfl));intro gb427 hg w12 hbox hb;have n0_:=Y0 (below_step (by repeat (with_reducible first|exact HB.out|apply Y3|apply Y1|apply Y2)) hb);have n1_:=Y0 (hbox);have n2_:=Y0 ((by rw [hg];exact (below_size (by repeat (with_reducible first|exact HB.out|apply Y3|apply Y1|apply Y2))):w.heap.size≤gb427));have n3_:=Y0 ((by rw [hg];exact (below_size (by repeat (with_reducible first|exact HB.out|apply Y3|apply Y1|apply Y2))):w.heap.size≤gb427));clear HB;have HB:=n0_;have BK427:=n1_;have GW427:=n2_;have GE427:=n3_;clear n0_ n1_ n2_ n3_;clear hb hbox hg)|((with_reducible refine gate_dst (N:=3) rfl ?_);refine box_event ?hg (N:=3) ?hd (cs:=#[.string a1_0,.slice A1_1 l1_1.length c1_1,.slice A1_2 l1_2.length c1_2]) (t:=119) ?hr ?_;(case hd=>rfl);(case hg=>rfl);(case hr=>first|(go_simp;done)|(go_simp;rfl));intro gb428 hg w13 hbox hb;have n0_:=Y0 (blk_below (g:=gb427) (o:=.cells #[.string a0_0,.slice A0_1 l0_1.length c0_1,.slice A0_2 l0_2.length c0_2] 119 (0,0)) (by (with_reducible repeat first|apply Y11|apply Y13|apply Y12);exact BK427.out) hb);have n1_:=Y0 (below_step (by repeat (with_reducible first|exact HB.out|apply Y3|apply Y1|apply Y2|refine Y4 ?_ GE427.out)) hb);have n2_:=Y0 (hbox);have n3_:=Y0 ((by rw [hg];exact (below_size (by repeat (with_reducible first|exact HB.out|apply Y3|apply Y1|apply Y2|refine Y4 ?_ GE427.out))):w.heap.size≤gb428));have n4_:=Y0 ((by rw [hg];exact (below_size (by repeat (with_reducible first|exact HB.out|apply Y3|apply Y1|apply Y2|refine Y4 ?_ GE427.out))):w.heap.size≤gb428));have n5_:=Y0 ((by rw [hg];exact Nat.ne_of_lt (blk_lt (g:=gb427) (o:=.cells #[.string a0_0,.slice A0_1 l0_1.length c0_1,.slice A0_2 l0_2.length c0_2] 119 (0,0)) (by (with_reducible repeat first|apply Y11|apply Y13|apply Y12);exact BK427.out)):gb427≠gb428));have n6_:=Y0 ((by rw [hg];exact Nat.ne_of_gt (blk_lt (g:=gb427) (o:=.cells #[.string a0_0,.slice A0_1 l0_1.length c0_1,.slice A0_2 l0_2.length c0_2] 119 (0,0)) (by (with_reducible repeat first|apply Y11|apply Y13|apply Y12);exact BK427.out)):gb428≠gb427));clear BK427;clear HB;have BK427:=n0_;have HB:=n1_;have BK428:=n2_;have GW428:=n3_;have GE428:=n4_;have NB427_428:=n5_;have NB428_427:=n6_;clear n0_ n1_ n2_ n3_ n4_ n5_ n6_;clear hb hbox hg;have hnb14:=NB427_428.out;have hnc14:=NB428_427.out;have ⟨hcz15_0,hcz15_1,hcz15_2,hfz15_0,hfz15_1,hfz15_2⟩:=sq_box3 BK427.out;have ⟨hcz16_0,hcz16_1,hcz16_2,hfz16_0,hfz16_1,hfz16_2⟩:=sq_box3 BK428.out)|(go_at_call 48;(with_reducible refine (slices_Equal_string_string.calls k _ _ l0_1 _ _ l1_1 false _ ?side1 ?side2 ?side3 ?side4 A4.out).mono ?_);(case side1=>repeat (first|exact (Kd.C_below HR0_1.out HB.out)|(with_reducible refine Y8 ?_ _)|(with_reducible refine Kd.C_drewN ?_ _)|(with_reducible refine Kd.C_drew ?_)));(case side2=>exact HC0_1.out);(case side3=>repeat (first|exact (Kd.C_below HR1_1.out HB.out)|(with_reducible refine Y8 ?_ _)|(with_reducible refine Kd.C_drewN ?_ _)|(with_reducible refine Kd.C_drew ?_)));(case side4=>exact HC1_1.out);rintro e w' ⟨rfl,⟨nd,rfl⟩⟩))
  go_ret
  exact ⟨by first|rfl|(simp [] <;> rfl)|(simp [*] <;> rfl),by repeat (with_reducible first|exact HB.out|apply Y3|apply Y1|apply Y2|refine Y4 ?_ GE427.out|refine Y4 ?_ GE428.out)⟩
 subst c5
 rw [if_pos rfl] at H
 replace H:=Y17.mp H
 obtain ⟨t430,A60,H⟩:=H
 try dsimp only at H
 have A6:=Y0 A60
 clear A60
 obtain rfl:=Option.some.inj H
 go_enter Tryz.func71,Tryz.ntmps71
 go_wp2_with (first|((with_reducible refine gate_dst (N:=2) rfl ?_);refine box_event ?hg (N:=2) ?hd (cs:=#[.string a0_0,.slice A0_1 l0_1.length c0_1,.slice A0_2 l0_2.length c0_2]) (t:=119) ?hr ?_;(case hd=>rfl);(case hg=>rfl);(case hr=>first|(go_simp;done)|(go_simp;rfl));intro gb427 hg w7 hbox hb;have n0_:=Y0 (below_step (by repeat (with_reducible first|exact HB.out|apply Y3|apply Y1|apply Y2)) hb);have n1_:=Y0 (hbox);have n2_:=Y0 ((by rw [hg];exact (below_size (by repeat (with_reducible first|exact HB.out|apply Y3|apply Y1|apply Y2))):w.heap.size≤gb427));have n3_:=Y0 ((by rw [hg];exact (below_size (by repeat (with_reducible first|exact HB.out|apply Y3|apply Y1|apply Y2))):w.heap.size≤gb427));clear HB;have HB:=n0_;have BK427:=n1_;have GW427:=n2_;have GE427:=n3_;clear n0_ n1_ n2_ n3_;clear hb hbox hg)|((with_reducible refine gate_dst (N:=3) rfl ?_);refine box_event ?hg (N:=3) ?hd (cs:=#[.string a1_0,.slice A1_1 l1_1.length c1_1,.slice A1_2 l1_2.length c1_2]) (t:=119) ?hr ?_;(case hd=>rfl);(case hg=>rfl);(case hr=>first|(go_simp;done)|(go_simp;rfl));intro gb428 hg w8 hbox hb;have n0_:=Y0 (blk_below (g:=gb427) (o:=.cells #[.string a0_0,.slice A0_1 l0_1.length c0_1,.slice A0_2 l0_2.length c0_2] 119 (0,0)) (by (with_reducible repeat first|apply Y11|apply Y13|apply Y12);exact BK427.out) hb);have n1_:=Y0 (below_step (by repeat (with_reducible first|exact HB.out|apply Y3|apply Y1|apply Y2|refine Y4 ?_ GE427.out)) hb);have n2_:=Y0 (hbox);have n3_:=Y0 ((by rw [hg];exact (below_size (by repeat (with_reducible first|exact HB.out|apply Y3|apply Y1|apply Y2|refine Y4 ?_ GE427.out))):w.heap.size≤gb428));have n4_:=Y0 ((by rw [hg];exact (below_size (by repeat (with_reducible first|exact HB.out|apply Y3|apply Y1|apply Y2|refine Y4 ?_ GE427.out))):w.heap.size≤gb428));have n5_:=Y0 ((by rw [hg];exact Nat.ne_of_lt (blk_lt (g:=gb427) (o:=.cells #[.string a0_0,.slice A0_1 l0_1.length c0_1,.slice A0_2 l0_2.length c0_2] 119 (0,0)) (by (with_reducible repeat first|apply Y11|apply Y13|apply Y12);exact BK427.out)):gb427≠gb428));have n6_:=Y0 ((by rw [hg];exact Nat.ne_of_gt (blk_lt (g:=gb427) (o:=.cells #[.string a0_0,.slice A0_1 l0_1.length c0_1,.slice A0_2 l0_2.length c0_2] 119 (0,0)) (by (with_reducible repeat first|apply Y11|apply Y13|apply Y12);exact BK427.out)):gb428≠gb427));clear BK427;clear HB;have BK427:=n0_;have HB:=n1_;have BK428:=n2_;have GW428:=n3_;have GE428:=n4_;have NB427_428:=n5_;have NB428_427:=n6_;clear n0_ n1_ n2_ n3_ n4_ n5_ n6_;clear hb hbox hg;have hnb9:=NB427_428.out;have hnc9:=NB428_427.out;have ⟨hcz10_0,hcz10_1,hcz10_2,hfz10_0,hfz10_1,hfz10_2⟩:=sq_box3 BK427.out;have ⟨hcz11_0,hcz11_1,hcz11_2,hfz11_0,hfz11_1,hfz11_2⟩:=sq_box3 BK428.out)|(go_at_call 48;(with_reducible refine (slices_Equal_string_string.calls k _ _ l0_1 _ _ l1_1 true _ ?side1 ?side2 ?side3 ?side4 A4.out).mono ?_);(case side1=>repeat (first|exact (Kd.C_below HR0_1.out HB.out)|(with_reducible refine Y8 ?_ _)|(with_reducible refine Kd.C_drewN ?_ _)|(with_reducible refine Kd.C_drew ?_)));(case side2=>exact HC0_1.out);(case side3=>repeat (first|exact (Kd.C_below HR1_1.out HB.out)|(with_reducible refine Y8 ?_ _)|(with_reducible refine Kd.C_drewN ?_ _)|(with_reducible refine Kd.C_drew ?_)));(case side4=>exact HC1_1.out);rintro e w' ⟨rfl,⟨nd,rfl⟩⟩)|(go_at_call 49;(with_reducible refine (slices_Equal_int64_int64.calls k _ _ l0_2 _ _ l1_2 t430 _ ?side1 ?side2 ?side3 ?side4 A6.out).mono ?_);(case side1=>repeat (first|exact (Kd.C_below HR0_2.out (by repeat (with_reducible first|exact HB.out|apply Y3|apply Y1|apply Y2|refine Y4 ?_ GE427.out|refine Y4 ?_ GE428.out)))|(with_reducible refine Y8 ?_ _)|(with_reducible refine Kd.C_drewN ?_ _)|(with_reducible refine Kd.C_drew ?_)));(case side2=>exact HC0_2.out);(case side3=>repeat (first|exact (Kd.C_below HR1_2.out (by repeat (with_reducible first|exact HB.out|apply Y3|apply Y1|apply Y2|refine Y4 ?_ GE427.out|refine Y4 ?_ GE428.out)))|(with_reducible refine Y8 ?_ _)|(with_reducible refine Kd.C_drewN ?_ _)|(with_reducible refine Kd.C_drew ?_)));(case side4=>exact HC1_2.out);rintro e w' ⟨rfl,⟨nd,rfl⟩⟩))
 go_ret
 exact ⟨by first|rfl|(simp [] <;> rfl)|(simp [*] <;> rfl),by repeat (with_reducible first|exact HB.out|apply Y3|apply Y1|apply Y2|refine Y4 ?_ GE427.out|refine Y4 ?_ GE428.out)⟩
def strEq (a b:ByteArray):Bool:=a.toList == b.toList
def intEq (a b:Int):Bool:=a == b
theorem equal_s (l m:List ByteArray) (h:l.length=m.length) (hb:l.length≤9223372036854775807):∀ n i:Nat,i + n=l.length→slices_Equal_string_string.l0 (n + 1) l m (l.length:Int) (i:Int)=some (allEq strEq (l.drop i) (m.drop i))
 | 0,i,hi=>by
  unfold slices_Equal_string_string.l0
  rw [if_neg (by omega),List.drop_of_length_le (by omega),List.drop_of_length_le (by omega)]
  rfl
 | n + 1,i,hi=>by
  have h1:i < l.length:=by omega
  have h2:i < m.length:=by omega
  have r1:rdOf ByteArray.empty l (i:Int)=l[i]:=by unfold rdOf;simp [h1]
  have r2:rdOf ByteArray.empty m (i:Int)=m[i]:=by unfold rdOf;simp [h2]
  have hw:wrap64 ((i:Int) + 1)=((i + 1:Nat):Int):=by unfold wrap64;omega
  unfold slices_Equal_string_string.l0
  rw [if_pos (by omega),if_pos (by omega),if_pos (by omega),if_pos (by omega),r1,r2,hw,equal_s l m h hb n (i + 1) (by omega),allEq_step strEq l m i h1 h2]
  unfold strEq
  by_cases e:l[i].toList=m[i].toList
  ·rw [if_pos e,e];simp
  ·rw [if_neg e]
   have:(l[i].toList == m[i].toList)=false:=beq_eq_false_iff_ne.2 e
   rw [this,Bool.false_and]
theorem equal_S (l m:List ByteArray) (hb:l.length≤9223372036854775807):slices_Equal_string_string.f (l.length + 1) l m=some (allEq strEq l m):=by
 unfold slices_Equal_string_string.f
 by_cases h:l.length=m.length
 ·rw [if_pos (by omega)]
  exact equal_s l m h hb l.length 0 (by omega)
 ·rw [if_neg (by omega),allEq_len strEq l m h]
theorem equal_i (l m:List Int) (h:l.length=m.length) (hb:l.length≤9223372036854775807):∀ n i:Nat,i + n=l.length→slices_Equal_int64_int64.l0 (n + 1) l m (l.length:Int) (i:Int)=some (allEq intEq (l.drop i) (m.drop i))
 | 0,i,hi=>by
  unfold slices_Equal_int64_int64.l0
  rw [if_neg (by omega),List.drop_of_length_le (by omega),List.drop_of_length_le (by omega)]
  rfl
 | n + 1,i,hi=>by
  have h1:i < l.length:=by omega
  have h2:i < m.length:=by omega
  have r1:rd l (i:Int)=l[i]:=by unfold rd;simp [h1]
  have r2:rd m (i:Int)=m[i]:=by unfold rd;simp [h2]
  have hw:wrap64 ((i:Int) + 1)=((i + 1:Nat):Int):=by unfold wrap64;omega
  unfold slices_Equal_int64_int64.l0
  rw [if_pos (by omega),if_pos (by omega),if_pos (by omega),if_pos (by omega),r1,r2,hw,equal_i l m h hb n (i + 1) (by omega),allEq_step intEq l m i h1 h2]
  unfold intEq
  by_cases e:l[i]=m[i]
  ·rw [if_pos e,e];simp
  ·rw [if_neg e]
   have:(l[i] == m[i])=false:=beq_eq_false_iff_ne.2 e
   rw [this,Bool.false_and]
theorem equal_I (l m:List Int) (hb:l.length≤9223372036854775807):slices_Equal_int64_int64.f (l.length + 1) l m=some (allEq intEq l m):=by
 unfold slices_Equal_int64_int64.f
 by_cases h:l.length=m.length
 ·rw [if_pos (by omega)]
  exact equal_i l m h hb l.length 0 (by omega)
 ·rw [if_neg (by omega),allEq_len intEq l m h]
def fdEq (x y:S51):Bool:=x.f0 == y.f0 && (x.f1.toList == y.f1.toList && (x.f2 == y.f2 && (x.f3 == y.f3 && (x.f4 == y.f4 && (x.f5 == y.f5 && x.f6 == y.f6)))))
def sameMD (x y:S57):Bool:=if x.f0.toList=y.f0.toList then allEq fdEq x.f1 y.f1 else false
def sameED (x y:S119):Bool:=if x.f0.toList=y.f0.toList then (allEq strEq x.f1 y.f1 && allEq intEq x.f2 y.f2) else false
theorem equal_f (l m:List (S51)) (h:l.length=m.length) (hb:l.length≤9223372036854775807):∀ n i:Nat,i + n=l.length→∀ k,n < k→api_FieldDef.l0 k l m (l.length:Int) (i:Int)=some (allEq fdEq (l.drop i) (m.drop i)):=by
 intro n
 induction n with
 | zero =>
  intro i hi k hk
  obtain ⟨k,rfl⟩:∃ q,k=q + 1:=⟨k - 1,by omega⟩
  unfold api_FieldDef.l0
  rw [if_neg (by omega),List.drop_of_length_le (by omega),List.drop_of_length_le (by omega)]
  rfl
 | succ n ih =>
  intro i hi k hk
  obtain ⟨k,rfl⟩:∃ q,k=q + 1:=⟨k - 1,by omega⟩
  have h1:i < l.length:=by omega
  have h2:i < m.length:=by omega
  have r1:rd_T51 l (i:Int)=l[i]:=by unfold rd_T51;simp [h1]
  have r2:rd_T51 m (i:Int)=m[i]:=by unfold rd_T51;simp [h2]
  have hw:wrap64 ((i:Int) + 1)=((i + 1:Nat):Int):=by unfold wrap64;omega
  unfold api_FieldDef.l0
  rw [if_pos (by omega),if_pos (by omega),if_pos (by omega),if_pos (by omega),r1,r2,hw,ih (i + 1) (by omega) k (by omega),allEq_step fdEq l m i h1 h2]
  have e:(!(l[i].f0 == m[i].f0) || (!(l[i].f1.toList == m[i].f1.toList) || (!(l[i].f2 == m[i].f2) || (!(l[i].f3 == m[i].f3) || (!(l[i].f4 == m[i].f4) || (!(l[i].f5 == m[i].f5) || (!(l[i].f6 == m[i].f6))))))))=!(fdEq l[i] m[i]):=by unfold fdEq;simp [Bool.not_and]
  rw [e]
  cases fdEq l[i] m[i] <;> simp
theorem equal_F (l m:List (S51)) (hb:l.length≤9223372036854775807) (k:Nat) (hk:l.length < k):api_FieldDef.f k l m=some (allEq fdEq l m):=by
 unfold api_FieldDef.f
 by_cases h:l.length=m.length
 ·rw [if_pos (by omega)]
  exact equal_f l m h hb l.length 0 (by omega) k hk
 ·rw [if_neg (by omega),allEq_len fdEq l m h]
theorem equal_Sk (l m:List ByteArray) (hb:l.length≤9223372036854775807):∀ d,slices_Equal_string_string.f (l.length + 1 + d) l m=some (allEq strEq l m)
 | 0=>equal_S l m hb
 | d + 1=>slices_Equal_string_string.mono _ _ _ _ (equal_Sk l m hb d)
theorem equal_Ik (l m:List Int) (hb:l.length≤9223372036854775807):∀ d,slices_Equal_int64_int64.f (l.length + 1 + d) l m=some (allEq intEq l m)
 | 0=>equal_I l m hb
 | d + 1=>slices_Equal_int64_int64.mono _ _ _ _ (equal_Ik l m hb d)
theorem same_md (x y:S57) (pA1 qA1:Option Addr) (pc1 qc1:Nat) (W:World) (pr1:Kd.C k51 W pA1 x.f1.length x.f1) (qr1:Kd.C k51 W qA1 y.f1.length y.f1) (pg1:x.f1.length≤pc1) (qg1:y.f1.length≤qc1) :
  Calls Tryz.prog 69 #[.agg #[.string x.f0,.slice pA1 x.f1.length pc1],.agg #[.string y.f0,.slice qA1 y.f1.length qc1]] W (SameT W (sameMD x y)) :=
 table_Same_1.calls (x.f1.length + 1) x.f0 pA1 pc1 x.f1 y.f0 qA1 qc1 y.f1 (sameMD x y) W pr1 pg1 qr1 qg1 (by unfold table_Same_1.f sameMD;split;(rw [equal_F _ _ (Kd.C_max pr1) _ (Nat.lt_succ_self _)];rfl);rfl)
theorem same_ed (x y:S119) (pA1 pA2 qA1 qA2:Option Addr) (pc1 pc2 qc1 qc2:Nat) (W:World) (pr1:Kd.C Kd.string W pA1 x.f1.length x.f1) (pr2:Kd.C (Kd.int .i64) W pA2 x.f2.length x.f2) (qr1:Kd.C Kd.string W qA1 y.f1.length y.f1) (qr2:Kd.C (Kd.int .i64) W qA2 y.f2.length y.f2) (pg1:x.f1.length≤pc1) (pg2:x.f2.length≤pc2) (qg1:y.f1.length≤qc1) (qg2:y.f2.length≤qc2) :
  Calls Tryz.prog 71 #[.agg #[.string x.f0,.slice pA1 x.f1.length pc1,.slice pA2 x.f2.length pc2],.agg #[.string y.f0,.slice qA1 y.f1.length qc1,.slice qA2 y.f2.length qc2]] W (SameT W (sameED x y)) :=
 table_Same_2.calls (x.f1.length + 1 + (x.f2.length + 1)) x.f0 pA1 pc1 x.f1 pA2 pc2 x.f2 y.f0 qA1 qc1 y.f1 qA2 qc2 y.f2 (sameED x y) W pr1 pg1 pr2 pg2 qr1 qg1 qr2 qg2 (by unfold table_Same_2.f sameED;split;(rw [equal_Sk _ _ (Kd.C_max pr1) _,show x.f1.length + 1 + (x.f2.length + 1)=x.f2.length + 1 + (x.f1.length + 1) from by omega,equal_Ik _ _ (Kd.C_max pr2) _];simp only [Option.bind_some];cases allEq strEq x.f1 y.f1 <;> simp);rfl)
set_option maxRecDepth 100000 in
set_option maxHeartbeats 4000000 in
theorem eqf_MD (l m:List (S57)) (A A2:Option Addr) (c c2:Nat) (w:World) (hC:k57.C w A l.length l) (hC2:k57.C w A2 m.length m) (hc:l.length≤c) (hc2:m.length≤c2) :
  Calls Tryz.prog 72 #[.slice A l.length c,.slice A2 m.length c2,.func (.func 69) #[] #[]] w (SameT w (allEq sameMD l m)):=by
 have HC:=Y0 hC
 have HC2:=Y0 hC2
 have hm1:=Kd.C_max hC
 have hm2:=Kd.C_max hC2
 clear hC hC2
 by_cases hlen:l.length=m.length
 ·have d1:((l.length:Int) != (m.length:Int))=false:=by rw [bne_eq_false_iff_eq];omega
  have HLEN:=Y0 hlen
  clear hlen
  go_enter Tryz.func72,Tryz.ntmps72
  go_wp2
  go_loopg [17] l.length (fun n v W=>∃ i:Nat,v = .int .i64 i∧Aside0 (allEq sameMD (l.drop i) (m.drop i)=allEq sameMD l m)∧Aside0 (Below w.heap.size w W)∧Aside0 (i + n=l.length))
  case atStart=>exact ⟨0,rfl,⟨rfl⟩,⟨Below.refl _ _⟩,⟨by omega⟩⟩
  case round =>
   obtain ⟨i,rfl,HS,HB,HN⟩:=hrel
   by_cases hlt:i < l.length
   ·have hlt2:i < m.length:=by have:=HLEN.out;omega
    have HT:=Y0 ((allEq_step sameMD l m i hlt hlt2).symm.trans HS.out)
    clear HS
    have d3:(0:Int)≤(i:Int):=by omega
    have d4:(i:Int) < (l.length:Int):=by omega
    have d4':(i:Int) < (m.length:Int):=by omega
    obtain ⟨pad,pA1,pc1,phad,pz0,pz1,pg1,pr1⟩:=at_T57 HC.out i d3 d4
    obtain ⟨x,hx⟩:∃ x,x=l[i]'hlt:=⟨_,rfl⟩
    have phrd:rd_T57 l i=x:=by unfold rd_T57;rw [hx,List.getD_eq_getElem?_getD];simp [hlt,hlt2]
    rw [phrd] at pz0 pz1 pg1 pr1
    rw [Int.toNat_natCast] at pz0 pz1
    replace pz0:=(HB.out.cell (World.block_lt_of_cell? w _ pz0)).trans pz0
    replace pz1:=(HB.out.cell (World.block_lt_of_cell? w _ pz1)).trans pz1
    have pG1:=Y0 pg1
    have pR1:=Y0 pr1
    clear phrd pg1 pr1
    subst phad
    obtain ⟨qad,qA1,qc1,qhad,qz0,qz1,qg1,qr1⟩:=at_T57 HC2.out i d3 d4'
    obtain ⟨y,hy⟩:∃ y,y=m[i]'hlt2:=⟨_,rfl⟩
    have qhrd:rd_T57 m i=y:=by unfold rd_T57;rw [hy,List.getD_eq_getElem?_getD];simp [hlt,hlt2]
    rw [qhrd] at qz0 qz1 qg1 qr1
    rw [Int.toNat_natCast] at qz0 qz1
    replace qz0:=(HB.out.cell (World.block_lt_of_cell? w _ qz0)).trans qz0
    replace qz1:=(HB.out.cell (World.block_lt_of_cell? w _ qz1)).trans qz1
    have qG1:=Y0 qg1
    have qR1:=Y0 qr1
    clear qhrd qg1 qr1
    subst qhad
    have qz0':=pw_cell_below (below_alloc (Below.refl _ wr) (.cells #[.string x.f0,.slice pA1 x.f1.length pc1] 57 (0,0))) qz0
    have qz1':=pw_cell_below (below_alloc (Below.refl _ wr) (.cells #[.string x.f0,.slice pA1 x.f1.length pc1] 57 (0,0))) qz1
    clear qz0 qz1
    rw [← hx,← hy] at HT
    clear hx hy
    obtain ⟨b,hb⟩:∃ b,sameMD x y=b:=⟨_,rfl⟩
    rw [hb] at HT
    have HBX:=Y0 hb
    clear hb
    cases gk with
    | zero=>have:=HN.out;omega
    | succ k1 =>
     cases b
     ·have hF:Aside0 (false=allEq sameMD l m):=⟨by rw [← HT.out,Bool.false_and]⟩
      clear HT
      go_wp2_with (go_at_call 69;refine (HBX.out ▸ same_md x y _ _ _ _ _ (Kd.C_below pR1.out (below_alloc (below_alloc HB.out _) _)) (Kd.C_below qR1.out (below_alloc (below_alloc HB.out _) _)) pG1.out qG1.out).mono ?_;rintro e W1 ⟨rfl,hB1⟩)
      go_ret
      exact ⟨by rw [← hF.out];rfl,below_step (below_alloc (below_alloc HB.out _) _) hB1⟩
     ·have hT:Aside0 (allEq sameMD (l.drop (i + 1)) (m.drop (i + 1))=allEq sameMD l m):=⟨by rw [← HT.out,Bool.true_and]⟩
      clear HT
      go_wp2_with (go_at_call 69;refine (HBX.out ▸ same_md x y _ _ _ _ _ (Kd.C_below pR1.out (below_alloc (below_alloc HB.out _) _)) (Kd.C_below qR1.out (below_alloc (below_alloc HB.out _) _)) pG1.out qG1.out).mono ?_;rintro e W1 ⟨rfl,hB1⟩)
      go_roundg k1
      case measure=>omega
      case rel=>exact ⟨i + 1,by go_num,hT,⟨below_step (below_alloc (below_alloc HB.out _) _) hB1⟩,⟨by have:=HN.out;omega⟩⟩
   ·have hF:Aside0 (true=allEq sameMD l m):=⟨by rw [← HS.out,List.drop_of_length_le (by omega),List.drop_of_length_le (by have:=HLEN.out;omega)];rfl⟩
    clear HS
    go_wp2
    go_ret
    exact ⟨by rw [← hF.out];rfl,HB.out⟩
 ·have d1:((l.length:Int) != (m.length:Int))=true:=by rw [bne_iff_ne];omega
  have HF:=Y0 (allEq_len sameMD l m hlen)
  clear hlen
  go_enter Tryz.func72,Tryz.ntmps72
  rw [HF.out]
  go_wp2
  go_ret
  exact ⟨rfl,Below.refl _ _⟩
set_option maxRecDepth 100000 in
set_option maxHeartbeats 4000000 in
theorem eqf_ED (l m:List (S119)) (A A2:Option Addr) (c c2:Nat) (w:World) (hC:k119.C w A l.length l) (hC2:k119.C w A2 m.length m) (hc:l.length≤c) (hc2:m.length≤c2) :
  Calls Tryz.prog 73 #[.slice A l.length c,.slice A2 m.length c2,.func (.func 71) #[] #[]] w (SameT w (allEq sameED l m)):=by
 have HC:=Y0 hC
 have HC2:=Y0 hC2
 have hm1:=Kd.C_max hC
 have hm2:=Kd.C_max hC2
 clear hC hC2
 by_cases hlen:l.length=m.length
 ·have d1:((l.length:Int) != (m.length:Int))=false:=by rw [bne_eq_false_iff_eq];omega
  have HLEN:=Y0 hlen
  clear hlen
  go_enter Tryz.func73,Tryz.ntmps73
  go_wp2
  go_loopg [17] l.length (fun n v W=>∃ i:Nat,v = .int .i64 i∧Aside0 (allEq sameED (l.drop i) (m.drop i)=allEq sameED l m)∧Aside0 (Below w.heap.size w W)∧Aside0 (i + n=l.length))
  case atStart=>exact ⟨0,rfl,⟨rfl⟩,⟨Below.refl _ _⟩,⟨by omega⟩⟩
  case round =>
   obtain ⟨i,rfl,HS,HB,HN⟩:=hrel
   by_cases hlt:i < l.length
   ·have hlt2:i < m.length:=by have:=HLEN.out;omega
    have HT:=Y0 ((allEq_step sameED l m i hlt hlt2).symm.trans HS.out)
    clear HS
    have d3:(0:Int)≤(i:Int):=by omega
    have d4:(i:Int) < (l.length:Int):=by omega
    have d4':(i:Int) < (m.length:Int):=by omega
    obtain ⟨pad,pA1,pc1,pA2,pc2,phad,pz0,pz1,pz2,pg1,pr1,pg2,pr2⟩:=at_T119 HC.out i d3 d4
    obtain ⟨x,hx⟩:∃ x,x=l[i]'hlt:=⟨_,rfl⟩
    have phrd:rd_T119 l i=x:=by unfold rd_T119;rw [hx,List.getD_eq_getElem?_getD];simp [hlt,hlt2]
    rw [phrd] at pz0 pz1 pz2 pg1 pr1 pg2 pr2
    rw [Int.toNat_natCast] at pz0 pz1 pz2
    replace pz0:=(HB.out.cell (World.block_lt_of_cell? w _ pz0)).trans pz0
    replace pz1:=(HB.out.cell (World.block_lt_of_cell? w _ pz1)).trans pz1
    replace pz2:=(HB.out.cell (World.block_lt_of_cell? w _ pz2)).trans pz2
    have pG1:=Y0 pg1
    have pR1:=Y0 pr1
    have pG2:=Y0 pg2
    have pR2:=Y0 pr2
    clear phrd pg1 pr1 pg2 pr2
    subst phad
    obtain ⟨qad,qA1,qc1,qA2,qc2,qhad,qz0,qz1,qz2,qg1,qr1,qg2,qr2⟩:=at_T119 HC2.out i d3 d4'
    obtain ⟨y,hy⟩:∃ y,y=m[i]'hlt2:=⟨_,rfl⟩
    have qhrd:rd_T119 m i=y:=by unfold rd_T119;rw [hy,List.getD_eq_getElem?_getD];simp [hlt,hlt2]
    rw [qhrd] at qz0 qz1 qz2 qg1 qr1 qg2 qr2
    rw [Int.toNat_natCast] at qz0 qz1 qz2
    replace qz0:=(HB.out.cell (World.block_lt_of_cell? w _ qz0)).trans qz0
    replace qz1:=(HB.out.cell (World.block_lt_of_cell? w _ qz1)).trans qz1
    replace qz2:=(HB.out.cell (World.block_lt_of_cell? w _ qz2)).trans qz2
    have qG1:=Y0 qg1
    have qR1:=Y0 qr1
    have qG2:=Y0 qg2
    have qR2:=Y0 qr2
    clear qhrd qg1 qr1 qg2 qr2
    subst qhad
    have qz0':=pw_cell_below (below_alloc (Below.refl _ wr) (.cells #[.string x.f0,.slice pA1 x.f1.length pc1,.slice pA2 x.f2.length pc2] 119 (0,0))) qz0
    have qz1':=pw_cell_below (below_alloc (Below.refl _ wr) (.cells #[.string x.f0,.slice pA1 x.f1.length pc1,.slice pA2 x.f2.length pc2] 119 (0,0))) qz1
    have qz2':=pw_cell_below (below_alloc (Below.refl _ wr) (.cells #[.string x.f0,.slice pA1 x.f1.length pc1,.slice pA2 x.f2.length pc2] 119 (0,0))) qz2
    clear qz0 qz1 qz2
    rw [← hx,← hy] at HT
    clear hx hy
    obtain ⟨b,hb⟩:∃ b,sameED x y=b:=⟨_,rfl⟩
    rw [hb] at HT
    have HBX:=Y0 hb
    clear hb
    cases gk with
    | zero=>have:=HN.out;omega
    | succ k1 =>
     cases b
     ·have hF:Aside0 (false=allEq sameED l m):=⟨by rw [← HT.out,Bool.false_and]⟩
      clear HT
      go_wp2_with (go_at_call 71;refine (HBX.out ▸ same_ed x y _ _ _ _ _ _ _ _ _ (Kd.C_below pR1.out (below_alloc (below_alloc HB.out _) _)) (Kd.C_below pR2.out (below_alloc (below_alloc HB.out _) _)) (Kd.C_below qR1.out (below_alloc (below_alloc HB.out _) _)) (Kd.C_below qR2.out (below_alloc (below_alloc HB.out _) _)) pG1.out pG2.out qG1.out qG2.out).mono ?_;rintro e W1 ⟨rfl,hB1⟩)
      go_ret
      exact ⟨by rw [← hF.out];rfl,below_step (below_alloc (below_alloc HB.out _) _) hB1⟩
     ·have hT:Aside0 (allEq sameED (l.drop (i + 1)) (m.drop (i + 1))=allEq sameED l m):=⟨by rw [← HT.out,Bool.true_and]⟩
      clear HT
      go_wp2_with (go_at_call 71;refine (HBX.out ▸ same_ed x y _ _ _ _ _ _ _ _ _ (Kd.C_below pR1.out (below_alloc (below_alloc HB.out _) _)) (Kd.C_below pR2.out (below_alloc (below_alloc HB.out _) _)) (Kd.C_below qR1.out (below_alloc (below_alloc HB.out _) _)) (Kd.C_below qR2.out (below_alloc (below_alloc HB.out _) _)) pG1.out pG2.out qG1.out qG2.out).mono ?_;rintro e W1 ⟨rfl,hB1⟩)
      go_roundg k1
      case measure=>omega
      case rel=>exact ⟨i + 1,by go_num,hT,⟨below_step (below_alloc (below_alloc HB.out _) _) hB1⟩,⟨by have:=HN.out;omega⟩⟩
   ·have hF:Aside0 (true=allEq sameED l m):=⟨by rw [← HS.out,List.drop_of_length_le (by omega),List.drop_of_length_le (by have:=HLEN.out;omega)];rfl⟩
    clear HS
    go_wp2
    go_ret
    exact ⟨by rw [← hF.out];rfl,HB.out⟩
 ·have d1:((l.length:Int) != (m.length:Int))=true:=by rw [bne_iff_ne];omega
  have HF:=Y0 (allEq_len sameED l m hlen)
  clear hlen
  go_enter Tryz.func73,Tryz.ntmps73
  rw [HF.out]
  go_wp2
  go_ret
  exact ⟨rfl,Below.refl _ _⟩
def sameSch (l0:List (S57)) (l1:List (S119)) (m0:List (S57)) (m1:List (S119)):Bool:=allEq sameMD l0 m0 && allEq sameED l1 m1
def table_Same.f (l0_0:List (S57)) (l0_1:List (S119)) (l1_0:List (S57)) (l1_1:List (S119)):Option Bool:=some (sameSch l0_0 l0_1 l1_0 l1_1)
set_option maxRecDepth 100000 in
set_option maxHeartbeats 4000000 in
theorem table_Same.calls (A0_0:Option Addr) (c0_0:Nat) (l0_0:List (S57)) (A0_1:Option Addr) (c0_1:Nat) (l0_1:List (S119)) (A1_0:Option Addr) (c1_0:Nat) (l1_0:List (S57)) (A1_1:Option Addr) (c1_1:Nat) (l1_1:List (S119)) (r:Bool) (w:World)
  (hr0_0:Kd.C k57 w A0_0 l0_0.length l0_0) (hc0_0:l0_0.length≤c0_0) (hr0_1:Kd.C k119 w A0_1 l0_1.length l0_1) (hc0_1:l0_1.length≤c0_1) (hr1_0:Kd.C k57 w A1_0 l1_0.length l1_0) (hc1_0:l1_0.length≤c1_0) (hr1_1:Kd.C k119 w A1_1 l1_1.length l1_1) (hc1_1:l1_1.length≤c1_1)
  (h:table_Same.f l0_0 l0_1 l1_0 l1_1=some r) :
  Calls Tryz.prog 24 #[.agg #[.slice A0_0 l0_0.length c0_0,.slice A0_1 l0_1.length c0_1],.agg #[.slice A1_0 l1_0.length c1_0,.slice A1_1 l1_1.length c1_1]] w fun e w'=>e = .returned (.bool r)∧Below w.heap.size w w':=by
 have HV2:=Y0 (Option.some.inj h)
 unfold sameSch at HV2
 have R0:=Y0 hr0_0
 have R1:=Y0 hr0_1
 have S0:=Y0 hr1_0
 have S1:=Y0 hr1_1
 clear hr0_0 hr0_1 hr1_0 hr1_1 h
 go_enter Tryz.func24,Tryz.ntmps24
 go_wp2_with fail
 have e0:(w.alloc (.cells #[.slice A0_0 l0_0.length c0_0,.slice A0_1 l0_1.length c0_1] 46 (0,0))).heap.size=w.heap.size + 1:=World.size_alloc _ _
 have q0:=blk_alloc (blk_new w (.cells #[.slice A0_0 l0_0.length c0_0,.slice A0_1 l0_1.length c0_1] 46 (0,0))) (.cells #[.slice A1_0 l1_0.length c1_0,.slice A1_1 l1_1.length c1_1] 46 (0,0))
 have q1:=blk_new (w.alloc (.cells #[.slice A0_0 l0_0.length c0_0,.slice A0_1 l0_1.length c0_1] 46 (0,0))) (.cells #[.slice A1_0 l1_0.length c1_0,.slice A1_1 l1_1.length c1_1] 46 (0,0))
 have qb:=below_step (below_alloc (Below.refl w.heap.size w) (.cells #[.slice A0_0 l0_0.length c0_0,.slice A0_1 l0_1.length c0_1] 46 (0,0))) (below_alloc (Below.refl _ (w.alloc (.cells #[.slice A0_0 l0_0.length c0_0,.slice A0_1 l0_1.length c0_1] 46 (0,0)))) (.cells #[.slice A1_0 l1_0.length c1_0,.slice A1_1 l1_1.length c1_1] 46 (0,0)))
 rw [e0] at q1
 generalize (w.alloc (.cells #[.slice A0_0 l0_0.length c0_0,.slice A0_1 l0_1.length c0_1] 46 (0,0))).alloc (.cells #[.slice A1_0 l1_0.length c1_0,.slice A1_1 l1_1.length c1_1] 46 (0,0))=V0 at *
 have HB0:=Y0 qb
 have HX0:=Y0 q0
 have HY0:=Y0 q1
 clear q0 q1 qb e0
 refine (eqf_MD l0_0 l1_0 A0_0 A1_0 c0_0 c1_0 V0 (Kd.C_below R0.out HB0.out) (Kd.C_below S0.out HB0.out) hc0_0 hc1_0).mono ?_
 rintro e1 W1 ⟨rfl,hB1⟩
 have HX1:=Y0 (blk_below HX0.out hB1)
 have HY1:=Y0 (blk_below HY0.out hB1)
 have HB1:=Y0 (below_step HB0.out hB1)
 clear HX0 HY0 HB0 hB1
 obtain ⟨b,hb⟩:∃ b,allEq sameMD l0_0 l1_0=b:=⟨_,rfl⟩
 rw [hb] at HV2 ⊢
 clear hb
 cases b
 ·go_wp2_with fail
  go_ret
  exact ⟨by rw [← HV2.out,Bool.false_and];rfl,HB1.out⟩
 ·have x1:W1.cell? ⟨w.heap.size,1,none⟩=some (.slice A0_1 l0_1.length c0_1):=(blk_cell HX1.out 1).trans rfl
  have y1:W1.cell? ⟨w.heap.size + 1,1,none⟩=some (.slice A1_1 l1_1.length c1_1):=(blk_cell HY1.out 1).trans rfl
  go_wp2_with fail
  clear x1 y1
  refine (eqf_ED l0_1 l1_1 A0_1 A1_1 c0_1 c1_1 _ (Kd.C_below R1.out HB1.out) (Kd.C_below S1.out HB1.out) hc0_1 hc1_1).mono ?_
  rintro e2 W2 ⟨rfl,hB2⟩
  have HB2:=Y0 (below_step HB1.out hB2)
  clear HX1 HY1 HB1 hB2
  obtain ⟨b,hb⟩:∃ b,allEq sameED l0_1 l1_1=b:=⟨_,rfl⟩
  rw [hb] at HV2 ⊢
  clear hb
  go_wp2_with fail
  go_ret
  exact ⟨by rw [← HV2.out,Bool.true_and];rfl,HB2.out⟩
def trufflelaw08_TableOrder.j0:Nat→Int→Int→Int→Bool→Bool→List (S34)→List (S68)→Option (Bool)
 | 0,_,_,_,_,_,_,_=>none
 | k + 1,x1,x2,x3,x9,x68,x432000,x432001=>if x68=true then (some x9) else ((table_Resolve.f x432000 x432001).bind fun bt436=>(if ([]:List (S34)).length + x432000.length < 1466015503701 then ((some (([]:List (S34))++x432000:List (S34))).bind fun y445=>(if 0≤x1 then (if x1 < (x432000.length:Int) then (if ([]:List (S36)).length + ((rd_T34 x432000 x1).f1).length < 1759218604441 then ((some (([]:List (S36))++((rd_T34 x432000 x1).f1):List (S36))).bind fun y450=>(if 0≤x3 then (if x3 < (y450.length:Int) then (if 0≤x2 then (if x2 < (y450.length:Int) then (if x1 < (y445.length:Int) then ((table_Resolve.f (y445.set (x1:Int).toNat (⟨(rd_T34 y445 x1).f0,((y450.set (x2:Int).toNat (⟨(rd_T36 y450 x3).f0,(rd_T36 y450 x3).f1,(rd_T36 y450 x3).f2,(rd_T36 y450 x3).f3,(rd_T36 y450 x3).f4,(rd_T36 y450 x3).f5,(rd_T36 y450 x3).f6⟩:S36)).set (x3:Int).toNat (⟨(rd_T36 y450 x2).f0,(rd_T36 y450 x2).f1,(rd_T36 y450 x2).f2,(rd_T36 y450 x2).f3,(rd_T36 y450 x2).f4,(rd_T36 y450 x2).f5,(rd_T36 y450 x2).f6⟩:S36)),(rd_T34 y445 x1).f2,(rd_T34 y445 x1).f3,(rd_T34 y445 x1).f4⟩:S34)) x432001).bind fun bt458=>(if ((bt436.2.2.2 == 0) == (bt458.2.2.2 == 0))=true then ((table_Same.f bt436.1 bt436.2.1 bt458.1 bt458.2.1).bind fun t467=>(some t467)) else (some false))) else (none)) else (none)) else (none)) else (none)) else (none))) else (none)) else (none)) else (none))) else (none)))
def trufflelaw08_TableOrder.f (k:Nat) (l0_0:List (S34)) (l0_1:List (S68)) (a1:Int) (a2:Int) (a3:Int):Option (Bool):=(trufflelaw08_awake.f).bind fun t432=>((trufflelaw08_few.f k l0_0 l0_1).bind fun t433=>(if t432=true then (if t433=true then (if a1 < 0 then (trufflelaw08_TableOrder.j0 k a1 a2 a3 t432 true l0_0 l0_1) else (if a1 ≥ (l0_0.length:Int) then (trufflelaw08_TableOrder.j0 k a1 a2 a3 t432 true l0_0 l0_1) else (if a2 < 0 then (trufflelaw08_TableOrder.j0 k a1 a2 a3 t432 true l0_0 l0_1) else (if a3 < 0 then (trufflelaw08_TableOrder.j0 k a1 a2 a3 t432 true l0_0 l0_1) else (if 0≤a1 then (if a1 < (l0_0.length:Int) then (if a2 ≥ (((rd_T34 l0_0 a1).f1).length:Int) then (trufflelaw08_TableOrder.j0 k a1 a2 a3 t432 true l0_0 l0_1) else (trufflelaw08_TableOrder.j0 k a1 a2 a3 t432 (decide (a3 ≥ (((rd_T34 l0_0 a1).f1).length:Int))) l0_0 l0_1)) else (none)) else (none)))))) else (trufflelaw08_TableOrder.j0 k a1 a2 a3 t432 true l0_0 l0_1)) else (trufflelaw08_TableOrder.j0 k a1 a2 a3 t432 true l0_0 l0_1)))
def trufflelaw08_TableOrder.T6:Bool × List (List Nat × List Nat):=(true,[([],[]),([0],[0]),([1],[1]),([],[]),([3],[3]),([2,4],[2,4]),([],[]),([6,5,2,0,1,2,3,4,5,6],[5,6])])
def trufflelaw08_TableOrder.B6:List Nat:=[0,1,3,0,8,31,0,127]
theorem trufflelaw08_TableOrder.tab6:rtab .any (opsOf Tryz.f8 6)=trufflelaw08_TableOrder.T6:=by kernel_rfl
theorem trufflelaw08_TableOrder.bits6:waitsOk trufflelaw08_TableOrder.T6.2 trufflelaw08_TableOrder.B6=true:=by kernel_rfl
def trufflelaw08_TableOrder.T8:Bool × List (List Nat × List Nat):=(true,[([],[]),([],[]),([],[]),([],[]),([],[]),([],[]),([4,5],[4,5]),([6],[6]),([],[]),([],[]),([8,9],[8,9]),([10],[10]),([0,1,0,1,4,5,6,7,11],[0,1]),([12,7,0,1,4,5,6,7,11],[7,12]),([2,3,0,1,2,3,4,5,6,7,8,9,10,11,12,13],[2,3]),([14,11,13,0,1,2,3,4,5,6,7,8,9,10,11,12,13],[11,14])])
def trufflelaw08_TableOrder.B8:List Nat:=[0,0,0,0,0,0,48,112,0,0,768,1792,4083,8179,16383,32767]
theorem trufflelaw08_TableOrder.tab8:rtab .any (opsOf Tryz.f8 8)=trufflelaw08_TableOrder.T8:=by kernel_rfl
theorem trufflelaw08_TableOrder.bits8:waitsOk trufflelaw08_TableOrder.T8.2 trufflelaw08_TableOrder.B8=true:=by kernel_rfl
set_option maxHeartbeats 8000000 in
set_option maxRecDepth 100000 in
theorem trufflelaw08_TableOrder.calls (k:Nat) (A0_0:Option Addr) (c0_0:Nat) (l0_0:List (S34)) (A0_1:Option Addr) (c0_1:Nat) (l0_1:List (S68)) (a1:Int) (a2:Int) (a3:Int) (w:World) (hG:GInv w) (hr0_0:Kd.C k34 w A0_0 l0_0.length l0_0) (hc0_0:l0_0.length≤c0_0) (hr0_1:Kd.C k68 w A0_1 l0_1.length l0_1) (hc0_1:l0_1.length≤c0_1) (h:trufflelaw08_TableOrder.f k l0_0 l0_1 a1 a2 a3=some true) :
  Calls Tryz.prog 8 #[.agg #[.slice A0_0 l0_0.length c0_0,.slice A0_1 l0_1.length c0_1],.int .i64 a1,.int .i64 a2,.int .i64 a3] w fun e w'=>e = .returned (.bool true)∧Below w.heap.size w w':=by
 have hu26:=Tryz.underlying26
 have hu46:=Tryz.underlying46
 have hu36:=Tryz.underlying36
 have HR0_0:=Y0 hr0_0
 have HC0_0:=Y0 hc0_0
 clear hr0_0 hc0_0
 have HR0_1:=Y0 hr0_1
 have HC0_1:=Y0 hc0_1
 clear hr0_1 hc0_1
 have HB:=Y0 (Below.refl w.heap.size w)
 have H:((trufflelaw08_awake.f).bind fun t432=>((trufflelaw08_few.f k l0_0 l0_1).bind fun t433=>(if t432=true then (if t433=true then (if a1 < 0 then (trufflelaw08_TableOrder.j0 k a1 a2 a3 t432 true l0_0 l0_1) else (if a1 ≥ (l0_0.length:Int) then (trufflelaw08_TableOrder.j0 k a1 a2 a3 t432 true l0_0 l0_1) else (if a2 < 0 then (trufflelaw08_TableOrder.j0 k a1 a2 a3 t432 true l0_0 l0_1) else (if a3 < 0 then (trufflelaw08_TableOrder.j0 k a1 a2 a3 t432 true l0_0 l0_1) else (if 0≤a1 then (if a1 < (l0_0.length:Int) then (if a2 ≥ (((rd_T34 l0_0 a1).f1).length:Int) then (trufflelaw08_TableOrder.j0 k a1 a2 a3 t432 true l0_0 l0_1) else (trufflelaw08_TableOrder.j0 k a1 a2 a3 t432 (decide (a3 ≥ (((rd_T34 l0_0 a1).f1).length:Int))) l0_0 l0_1)) else (none)) else (none)))))) else (trufflelaw08_TableOrder.j0 k a1 a2 a3 t432 true l0_0 l0_1)) else (trufflelaw08_TableOrder.j0 k a1 a2 a3 t432 true l0_0 l0_1))))=some true:=h
 clear h
 replace H:=Y17.mp H
 obtain ⟨t432,A50,H⟩:=H
 try dsimp only at H
 have A5:=Y0 A50
 clear A50
 replace H:=Y17.mp H
 obtain ⟨t433,A60,H⟩:=H
 try dsimp only at H
 have A6:=Y0 A60
 clear A60
 have HC7:=Y0 H
 clear H
 go_enter Tryz.func8,Tryz.ntmps8
 go_upto_region 3 with (first|((with_reducible refine gate_dst (N:=4) rfl ?_);(try (refine gate_guard (by rfl) ?_;dsimp only));refine box_event ?hg (N:=4) ?hd (cs:=#[.slice A0_0 l0_0.length c0_0,.slice A0_1 l0_1.length c0_1]) (t:=26) ?hr ?_;(case hd=>rfl);(case hg=>rfl);(case hr=>first|(go_simp;done)|(go_simp;rfl));intro gb431 hg w8 hbox hb;have n0_:=Y0 (below_step (by repeat (with_reducible first|exact HB.out|apply Y3|apply Y1|apply Y2)) hb);have n1_:=Y0 (hbox);have n2_:=Y0 ((by rw [hg];exact (below_size (by repeat (with_reducible first|exact HB.out|apply Y3|apply Y1|apply Y2))):w.heap.size≤gb431));have n3_:=Y0 ((by rw [hg];exact (below_size (by repeat (with_reducible first|exact HB.out|apply Y3|apply Y1|apply Y2))):w.heap.size≤gb431));clear HB;have HB:=n0_;have BK431:=n1_;have GW431:=n2_;have GE431:=n3_;clear n0_ n1_ n2_ n3_;clear hb hbox hg)|((with_reducible refine gate_callee (f:=16) rfl ?_);refine goesL_ (some 19) rfl rfl Tryz.func16 (by kernel_rfl) rfl #[] rfl (by (try simp only [List.map_toArray,List.map_cons,List.map_nil]);first|done|rfl|(simp only [List.length_drop,List.length_take];rfl)) ?_;(with_reducible refine (trufflelaw08_awake.calls  t432 _ ?side1 A5.out).mono ?_);(case side1=>exact hG.below (by repeat (with_reducible first|exact HB.out|apply Y3|apply Y1|apply Y2|refine Y4 ?_ GE431.out)));rintro e w9 ⟨rfl,hb⟩;refine ⟨_,rfl,?_⟩;have n0_:=Y0 (blk_below (g:=gb431) (o:=.cells #[.slice A0_0 l0_0.length c0_0,.slice A0_1 l0_1.length c0_1] 26 (0,0)) (by (with_reducible repeat first|apply Y11|apply Y13|apply Y12);exact BK431.out) hb);have n1_:=Y0 (below_step (by repeat (with_reducible first|exact HB.out|apply Y3|apply Y1|apply Y2|refine Y4 ?_ GE431.out)) hb);clear BK431;clear HB;have BK431:=n0_;have HB:=n1_;clear n0_ n1_;(try clear hb);(try clear hb2);(try clear hk);(try clear hi);have ⟨hcz10_0,hcz10_1,hfz10_0,hfz10_1⟩:=sq_box2 BK431.out)|((with_reducible refine gate_callee (f:=17) rfl ?_);refine goesL_ (some 21) rfl rfl Tryz.func17 (by kernel_rfl) rfl #[.agg #[.slice A0_0 l0_0.length c0_0,.slice A0_1 l0_1.length c0_1]] rfl (by (try simp only [List.map_toArray,List.map_cons,List.map_nil]);first|done|rfl|(simp only [List.length_drop,List.length_take];rfl)) ?_;(with_reducible refine (trufflelaw08_few.calls k _ _ l0_0 _ _ l0_1 t433 _ ?side1 ?side2 ?side3 ?side4 A6.out).mono ?_);(case side1=>repeat (first|exact (Kd.C_below HR0_0.out HB.out)|(with_reducible refine Y8 ?_ _)|(with_reducible refine Kd.C_drewN ?_ _)|(with_reducible refine Kd.C_drew ?_)));(case side2=>exact HC0_0.out);(case side3=>repeat (first|exact (Kd.C_below HR0_1.out HB.out)|(with_reducible refine Y8 ?_ _)|(with_reducible refine Kd.C_drewN ?_ _)|(with_reducible refine Kd.C_drew ?_)));(case side4=>exact HC0_1.out);rintro e w11 ⟨rfl,hb⟩;refine ⟨_,rfl,?_⟩;have n0_:=Y0 (blk_below (g:=gb431) (o:=.cells #[.slice A0_0 l0_0.length c0_0,.slice A0_1 l0_1.length c0_1] 26 (0,0)) (by (with_reducible repeat first|apply Y11|apply Y13|apply Y12);exact BK431.out) hb);have n1_:=Y0 (below_step (by repeat (with_reducible first|exact HB.out|apply Y3|apply Y1|apply Y2|refine Y4 ?_ GE431.out)) hb);clear BK431;clear HB;have BK431:=n0_;have HB:=n1_;clear n0_ n1_;(try clear hb);(try clear hb2);(try clear hk);(try clear hi)))
 (try simp only [Act.put,Y14,Y15,Y16])
 go_cut [68] (fun v68 wc=>∃ (kq:Nat) (x68_6:Bool),v68 = .bool x68_6∧Aside0 (trufflelaw08_TableOrder.j0 kq a1 a2 a3 t432 x68_6 l0_0 l0_1=some true)∧Aside0 (kq≤k)∧Aside0 (wc.heap[gb431]?=some (.cells #[(.slice A0_0 l0_0.length c0_0),(.slice A0_1 l0_1.length c0_1)] 26 (0,0)))∧Aside0 (Below w.heap.size w wc))
 case first =>
  have H:=HC7.out
  clear HC7
  by_cases c12:t432=true
  rotate_left
  ·replace c12:=Bool.eq_false_iff.mpr c12
   subst c12
   rw [if_neg (show ¬ (false=true) by decide)] at H
   have H':=Y0 H
   clear H
   go_wp2
   go_meet
   case rel=>exact ⟨_,(true),(by first|rfl|(simp;done)|(simp [*];done)),H',⟨by first|omega|exact Nat.le_refl _⟩,⟨by (with_reducible repeat first|apply Y11|apply Y13|apply Y12);exact BK431.out⟩,⟨by repeat (with_reducible first|exact HB.out|apply Y3|apply Y1|apply Y2|refine Y4 ?_ GE431.out)⟩⟩
  subst c12
  rw [if_pos rfl] at H
  by_cases c13:t433=true
  rotate_left
  ·replace c13:=Bool.eq_false_iff.mpr c13
   subst c13
   rw [if_neg (show ¬ (false=true) by decide)] at H
   have H':=Y0 H
   clear H
   go_wp2
   go_meet
   case rel=>exact ⟨_,(true),(by first|rfl|(simp;done)|(simp [*];done)),H',⟨by first|omega|exact Nat.le_refl _⟩,⟨by (with_reducible repeat first|apply Y11|apply Y13|apply Y12);exact BK431.out⟩,⟨by repeat (with_reducible first|exact HB.out|apply Y3|apply Y1|apply Y2|refine Y4 ?_ GE431.out)⟩⟩
  subst c13
  rw [if_pos rfl] at H
  by_cases c14:a1 < 0
  ·rw [if_pos c14] at H
   have c14b0:decide (a1 < 0)=true:=decide_eq_true c14
   clear c14
   (first|rw [c14b0]|(simp only [];rw [c14b0])|skip)
   have H':=Y0 H
   clear H
   go_wp2
   go_meet
   case rel=>exact ⟨_,(true),(by first|rfl|(simp;done)|(simp [*];done)),H',⟨by first|omega|exact Nat.le_refl _⟩,⟨by (with_reducible repeat first|apply Y11|apply Y13|apply Y12);exact BK431.out⟩,⟨by repeat (with_reducible first|exact HB.out|apply Y3|apply Y1|apply Y2|refine Y4 ?_ GE431.out)⟩⟩
  rw [if_neg c14] at H
  have c14b0:decide (a1 < 0)=false:=decide_eq_false c14
  clear c14
  (first|rw [c14b0]|(simp only [];rw [c14b0])|skip)
  by_cases c15:a1 ≥ (l0_0.length:Int)
  ·rw [if_pos c15] at H
   have c15b0:decide ((l0_0.length:Int)≤a1)=true:=decide_eq_true c15
   clear c15
   have H':=Y0 H
   clear H
   have ⟨hcz16_0,hcz16_1,hfz16_0,hfz16_1⟩:=sq_box2 BK431.out
   go_wp2
   go_meet
   case rel=>exact ⟨_,(true),(by first|rfl|(simp;done)|(simp [*];done)),H',⟨by first|omega|exact Nat.le_refl _⟩,⟨by (with_reducible repeat first|apply Y11|apply Y13|apply Y12);exact BK431.out⟩,⟨by repeat (with_reducible first|exact HB.out|apply Y3|apply Y1|apply Y2|refine Y4 ?_ GE431.out)⟩⟩
  rw [if_neg c15] at H
  have c15b0:decide ((l0_0.length:Int)≤a1)=false:=decide_eq_false c15
  clear c15
  by_cases c17:a2 < 0
  ·rw [if_pos c17] at H
   have c17b0:decide (a2 < 0)=true:=decide_eq_true c17
   clear c17
   have H':=Y0 H
   clear H
   have ⟨hcz18_0,hcz18_1,hfz18_0,hfz18_1⟩:=sq_box2 BK431.out
   go_wp2
   go_meet
   case rel=>exact ⟨_,(true),(by first|rfl|(simp;done)|(simp [*];done)),H',⟨by first|omega|exact Nat.le_refl _⟩,⟨by (with_reducible repeat first|apply Y11|apply Y13|apply Y12);exact BK431.out⟩,⟨by repeat (with_reducible first|exact HB.out|apply Y3|apply Y1|apply Y2|refine Y4 ?_ GE431.out)⟩⟩
  rw [if_neg c17] at H
  have c17b0:decide (a2 < 0)=false:=decide_eq_false c17
  clear c17
  by_cases c19:a3 < 0
  ·rw [if_pos c19] at H
   have c19b0:decide (a3 < 0)=true:=decide_eq_true c19
   clear c19
   have H':=Y0 H
   clear H
   have ⟨hcz20_0,hcz20_1,hfz20_0,hfz20_1⟩:=sq_box2 BK431.out
   go_wp2
   go_meet
   case rel=>exact ⟨_,(true),(by first|rfl|(simp;done)|(simp [*];done)),H',⟨by first|omega|exact Nat.le_refl _⟩,⟨by (with_reducible repeat first|apply Y11|apply Y13|apply Y12);exact BK431.out⟩,⟨by repeat (with_reducible first|exact HB.out|apply Y3|apply Y1|apply Y2|refine Y4 ?_ GE431.out)⟩⟩
  rw [if_neg c19] at H
  have c19b0:decide (a3 < 0)=false:=decide_eq_false c19
  clear c19
  by_cases c21:0≤a1
  rotate_left
  ·rw [if_neg c21] at H
   exact absurd H (by simp)
  rw [if_pos c21] at H
  have c21b0:decide (0≤a1)=true:=decide_eq_true c21
  clear c21
  by_cases c22:a1 < (l0_0.length:Int)
  rotate_left
  ·rw [if_neg c22] at H
   exact absurd H (by simp)
  rw [if_pos c22] at H
  have c22b0:decide (a1 < (l0_0.length:Int))=true:=decide_eq_true c22
  clear c22
  by_cases c23:a2 ≥ (((rd_T34 l0_0 a1).f1).length:Int)
  ·rw [if_pos c23] at H
   have c23b0:decide ((((rd_T34 l0_0 a1).f1).length:Int)≤a2)=true:=decide_eq_true c23
   clear c23
   have H':=Y0 H
   clear H
   have ⟨hcz24_0,hcz24_1,hfz24_0,hfz24_1⟩:=sq_box2 BK431.out
   have p434:0≤(a1:Int):=of_decide_eq_true (by first|(with_reducible assumption)|assumption)
   have q434:a1 < (l0_0.length:Int):=of_decide_eq_true (by first|(with_reducible assumption)|assumption)
   obtain ⟨ad434,A434_1,c434_1,A434_2,c434_2,A434_3,c434_3,e434,hx434_0,hx434_1,hx434_2,hx434_3,hx434_4,hl434_1,hi434_1,hl434_2,hi434_2,hl434_3,hi434_3⟩:=at_T34 HR0_0.out a1 p434 q434
   cases e434
   replace hx434_0:=(HB.out.cell (World.block_lt_of_cell? w _ hx434_0)).trans hx434_0
   replace hx434_1:=(HB.out.cell (World.block_lt_of_cell? w _ hx434_1)).trans hx434_1
   replace hx434_2:=(HB.out.cell (World.block_lt_of_cell? w _ hx434_2)).trans hx434_2
   replace hx434_3:=(HB.out.cell (World.block_lt_of_cell? w _ hx434_3)).trans hx434_3
   replace hx434_4:=(HB.out.cell (World.block_lt_of_cell? w _ hx434_4)).trans hx434_4
   have HR434_1:=Y0 hi434_1
   have HC434_1:=Y0 hl434_1
   clear hi434_1 hl434_1
   have HR434_2:=Y0 hi434_2
   have HC434_2:=Y0 hl434_2
   clear hi434_2 hl434_2
   have HR434_3:=Y0 hi434_3
   have HC434_3:=Y0 hl434_3
   clear hi434_3 hl434_3
   replace p434:=eq_true p434
   replace q434:=eq_true q434
   go_wp2
   go_meet
   case rel=>exact ⟨_,(true),(by first|rfl|(simp;done)|(simp [*];done)),H',⟨by first|omega|exact Nat.le_refl _⟩,⟨by (with_reducible repeat first|apply Y11|apply Y13|apply Y12);exact BK431.out⟩,⟨by repeat (with_reducible first|exact HB.out|apply Y3|apply Y1|apply Y2|refine Y4 ?_ GE431.out)⟩⟩
  rw [if_neg c23] at H
  have c23b0:decide ((((rd_T34 l0_0 a1).f1).length:Int)≤a2)=false:=decide_eq_false c23
  clear c23
  have H':=Y0 H
  clear H
  have ⟨hcz25_0,hcz25_1,hfz25_0,hfz25_1⟩:=sq_box2 BK431.out
  have p434:0≤(a1:Int):=of_decide_eq_true (by first|(with_reducible assumption)|assumption)
  have q434:a1 < (l0_0.length:Int):=of_decide_eq_true (by first|(with_reducible assumption)|assumption)
  obtain ⟨ad434,A434_1,c434_1,A434_2,c434_2,A434_3,c434_3,e434,hx434_0,hx434_1,hx434_2,hx434_3,hx434_4,hl434_1,hi434_1,hl434_2,hi434_2,hl434_3,hi434_3⟩:=at_T34 HR0_0.out a1 p434 q434
  cases e434
  replace hx434_0:=(HB.out.cell (World.block_lt_of_cell? w _ hx434_0)).trans hx434_0
  replace hx434_1:=(HB.out.cell (World.block_lt_of_cell? w _ hx434_1)).trans hx434_1
  replace hx434_2:=(HB.out.cell (World.block_lt_of_cell? w _ hx434_2)).trans hx434_2
  replace hx434_3:=(HB.out.cell (World.block_lt_of_cell? w _ hx434_3)).trans hx434_3
  replace hx434_4:=(HB.out.cell (World.block_lt_of_cell? w _ hx434_4)).trans hx434_4
  have HR434_1:=Y0 hi434_1
  have HC434_1:=Y0 hl434_1
  clear hi434_1 hl434_1
  have HR434_2:=Y0 hi434_2
  have HC434_2:=Y0 hl434_2
  clear hi434_2 hl434_2
  have HR434_3:=Y0 hi434_3
  have HC434_3:=Y0 hl434_3
  clear hi434_3 hl434_3
  replace p434:=eq_true p434
  replace q434:=eq_true q434
  have p435:0≤(a1:Int):=of_decide_eq_true (by first|(with_reducible assumption)|assumption)
  have q435:a1 < (l0_0.length:Int):=of_decide_eq_true (by first|(with_reducible assumption)|assumption)
  obtain ⟨ad435,A435_1,c435_1,A435_2,c435_2,A435_3,c435_3,e435,hx435_0,hx435_1,hx435_2,hx435_3,hx435_4,hl435_1,hi435_1,hl435_2,hi435_2,hl435_3,hi435_3⟩:=at_T34 HR0_0.out a1 p435 q435
  obtain rfl:ad434=ad435:=(by injection e435)
  replace hx435_0:=(HB.out.cell (World.block_lt_of_cell? w _ hx435_0)).trans hx435_0
  replace hx435_1:=(HB.out.cell (World.block_lt_of_cell? w _ hx435_1)).trans hx435_1
  replace hx435_2:=(HB.out.cell (World.block_lt_of_cell? w _ hx435_2)).trans hx435_2
  replace hx435_3:=(HB.out.cell (World.block_lt_of_cell? w _ hx435_3)).trans hx435_3
  replace hx435_4:=(HB.out.cell (World.block_lt_of_cell? w _ hx435_4)).trans hx435_4
  have HR435_1:=Y0 hi435_1
  have HC435_1:=Y0 hl435_1
  clear hi435_1 hl435_1
  have HR435_2:=Y0 hi435_2
  have HC435_2:=Y0 hl435_2
  clear hi435_2 hl435_2
  have HR435_3:=Y0 hi435_3
  have HC435_3:=Y0 hl435_3
  clear hi435_3 hl435_3
  replace p435:=eq_true p435
  replace q435:=eq_true q435
  have ea_:=Option.some.inj (hx434_1.symm.trans hx435_1)
  injection ea_ with ea_ en_ ec_
  subst ea_
  subst ec_
  clear en_
  have ea_:=Option.some.inj (hx434_2.symm.trans hx435_2)
  injection ea_ with ea_ en_ ec_
  subst ea_
  subst ec_
  clear en_
  have ea_:=Option.some.inj (hx434_3.symm.trans hx435_3)
  injection ea_ with ea_ en_ ec_
  subst ea_
  subst ec_
  clear en_
  go_wp2
  go_meet
  case rel=>exact ⟨_,(decide (a3 ≥ (((rd_T34 l0_0 a1).f1).length:Int))),(by first|rfl|(simp;done)|(simp [*];done)),H',⟨by first|omega|exact Nat.le_refl _⟩,⟨by (with_reducible repeat first|apply Y11|apply Y13|apply Y12);exact BK431.out⟩,⟨by repeat (with_reducible first|exact HB.out|apply Y3|apply Y1|apply Y2|refine Y4 ?_ GE431.out)⟩⟩
 case rest =>
  clear HC7
  obtain ⟨kq,x68_6,rfl,HA,HJ6,BK431,HB⟩:=hcut
  cases kq with
  | zero=>exact absurd HA.out (by simp [trufflelaw08_TableOrder.j0])
  | succ kj6 =>
   have H:=HA.out
   clear HA
   simp only [trufflelaw08_TableOrder.j0] at H
   by_cases c26:x68_6=true
   ·subst c26
    rw [if_pos rfl] at H
    have hv_:=Option.some.inj H
    go_wp2
    go_ret
    exact ⟨by first|rfl|(rw [hv_];done)|(simp [hv_];done)|(simp [← hv_];done)|(simp [] <;> rfl)|(simp [*] <;> rfl),by repeat (with_reducible first|exact HB.out|apply Y3|apply Y1|apply Y2|refine Y4 ?_ GE431.out)⟩
   replace c26:=Bool.eq_false_iff.mpr c26
   subst c26
   rw [if_neg (show ¬ (false=true) by decide)] at H
   replace H:=Y17.mp H
   obtain ⟨⟨t436,t439,t442,t443⟩,A270,H⟩:=H
   try dsimp only at H
   have A27:=Y0 A270
   clear A270
   by_cases c28:([]:List (S34)).length + l0_0.length < 1466015503701
   rotate_left
   ·rw [if_neg c28] at H
    exact absurd H (by simp)
   rw [if_pos c28] at H
   have LMc28:=Y0 c28
   clear c28
   obtain ⟨y445,hy445⟩:∃ y_:List (S34),y_=(([]:List (S34))++l0_0):=⟨_,rfl⟩
   replace H:(if 0≤a1 then (if a1 < (l0_0.length:Int) then (if ([]:List (S36)).length + ((rd_T34 l0_0 a1).f1).length < 1759218604441 then ((some (([]:List (S36))++((rd_T34 l0_0 a1).f1):List (S36))).bind fun y450=>(if 0≤a3 then (if a3 < (y450.length:Int) then (if 0≤a2 then (if a2 < (y450.length:Int) then (if a1 < (y445.length:Int) then ((table_Resolve.f (y445.set (a1:Int).toNat (⟨(rd_T34 y445 a1).f0,((y450.set (a2:Int).toNat (⟨(rd_T36 y450 a3).f0,(rd_T36 y450 a3).f1,(rd_T36 y450 a3).f2,(rd_T36 y450 a3).f3,(rd_T36 y450 a3).f4,(rd_T36 y450 a3).f5,(rd_T36 y450 a3).f6⟩:S36)).set (a3:Int).toNat (⟨(rd_T36 y450 a2).f0,(rd_T36 y450 a2).f1,(rd_T36 y450 a2).f2,(rd_T36 y450 a2).f3,(rd_T36 y450 a2).f4,(rd_T36 y450 a2).f5,(rd_T36 y450 a2).f6⟩:S36)),(rd_T34 y445 a1).f2,(rd_T34 y445 a1).f3,(rd_T34 y445 a1).f4⟩:S34)) l0_1).bind fun bt458=>(if ((t443 == 0) == (bt458.2.2.2 == 0))=true then ((table_Same.f t436 t439 bt458.1 bt458.2.1).bind fun t467=>(some t467)) else (some false))) else (none)) else (none)) else (none)) else (none)) else (none))) else (none)) else (none)) else (none))=some true:=by first|(rw [hy445];with_reducible exact H)|(have H2_:=(Option.bind_some _ _).symm.trans H;rw [hy445];with_reducible exact H2_)|(have H2_:=(Option.bind_some _ _).symm.trans H;with_reducible exact H2_)|with_reducible exact H|(rw [hy445];exact H)|exact H
   have Ny445:=Y0 hy445
   clear hy445
   by_cases c29:0≤a1
   rotate_left
   ·rw [if_neg c29] at H
    exact absurd H (by simp)
   rw [if_pos c29] at H
   have c29b0:decide (0≤a1)=true:=decide_eq_true c29
   clear c29
   by_cases c30:a1 < (l0_0.length:Int)
   rotate_left
   ·rw [if_neg c30] at H
    exact absurd H (by simp)
   rw [if_pos c30] at H
   have c30b0:decide (a1 < (l0_0.length:Int))=true:=decide_eq_true c30
   clear c30
   by_cases c31:([]:List (S36)).length + ((rd_T34 l0_0 a1).f1).length < 1759218604441
   rotate_left
   ·rw [if_neg c31] at H
    exact absurd H (by simp)
   rw [if_pos c31] at H
   have LMc31:=Y0 c31
   clear c31
   obtain ⟨y450,hy450⟩:∃ y_:List (S36),y_=(([]:List (S36))++((rd_T34 l0_0 a1).f1)):=⟨_,rfl⟩
   replace H:(if 0≤a3 then (if a3 < (y450.length:Int) then (if 0≤a2 then (if a2 < (y450.length:Int) then (if a1 < (y445.length:Int) then ((table_Resolve.f (y445.set (a1:Int).toNat (⟨(rd_T34 y445 a1).f0,((y450.set (a2:Int).toNat (⟨(rd_T36 y450 a3).f0,(rd_T36 y450 a3).f1,(rd_T36 y450 a3).f2,(rd_T36 y450 a3).f3,(rd_T36 y450 a3).f4,(rd_T36 y450 a3).f5,(rd_T36 y450 a3).f6⟩:S36)).set (a3:Int).toNat (⟨(rd_T36 y450 a2).f0,(rd_T36 y450 a2).f1,(rd_T36 y450 a2).f2,(rd_T36 y450 a2).f3,(rd_T36 y450 a2).f4,(rd_T36 y450 a2).f5,(rd_T36 y450 a2).f6⟩:S36)),(rd_T34 y445 a1).f2,(rd_T34 y445 a1).f3,(rd_T34 y445 a1).f4⟩:S34)) l0_1).bind fun bt458=>(if ((t443 == 0) == (bt458.2.2.2 == 0))=true then ((table_Same.f t436 t439 bt458.1 bt458.2.1).bind fun t467=>(some t467)) else (some false))) else (none)) else (none)) else (none)) else (none)) else (none))=some true:=by first|(rw [hy450];with_reducible exact H)|(have H2_:=(Option.bind_some _ _).symm.trans H;rw [hy450];with_reducible exact H2_)|(have H2_:=(Option.bind_some _ _).symm.trans H;with_reducible exact H2_)|with_reducible exact H|(rw [hy450];exact H)|exact H
   have Ny450:=Y0 hy450
   clear hy450
   by_cases c32:0≤a3
   rotate_left
   ·rw [if_neg c32] at H
    exact absurd H (by simp)
   rw [if_pos c32] at H
   have c32b0:decide (0≤a3)=true:=decide_eq_true c32
   clear c32
   by_cases c33:a3 < (y450.length:Int)
   rotate_left
   ·rw [if_neg c33] at H
    exact absurd H (by simp)
   rw [if_pos c33] at H
   have c33b0:decide (a3 < (y450.length:Int))=true:=decide_eq_true c33
   clear c33
   by_cases c34:0≤a2
   rotate_left
   ·rw [if_neg c34] at H
    exact absurd H (by simp)
   rw [if_pos c34] at H
   have c34b0:decide (0≤a2)=true:=decide_eq_true c34
   clear c34
   by_cases c35:a2 < (y450.length:Int)
   rotate_left
   ·rw [if_neg c35] at H
    exact absurd H (by simp)
   rw [if_pos c35] at H
   have c35b0:decide (a2 < (y450.length:Int))=true:=decide_eq_true c35
   clear c35
   obtain ⟨y455,hy455⟩:∃ y_:List (S36),y_=(y450.set (a2:Int).toNat (⟨(rd_T36 y450 a3).f0,(rd_T36 y450 a3).f1,(rd_T36 y450 a3).f2,(rd_T36 y450 a3).f3,(rd_T36 y450 a3).f4,(rd_T36 y450 a3).f5,(rd_T36 y450 a3).f6⟩:S36)):=⟨_,rfl⟩
   replace H:(if a1 < (y445.length:Int) then ((table_Resolve.f (y445.set (a1:Int).toNat (⟨(rd_T34 y445 a1).f0,(y455.set (a3:Int).toNat (⟨(rd_T36 y450 a2).f0,(rd_T36 y450 a2).f1,(rd_T36 y450 a2).f2,(rd_T36 y450 a2).f3,(rd_T36 y450 a2).f4,(rd_T36 y450 a2).f5,(rd_T36 y450 a2).f6⟩:S36)),(rd_T34 y445 a1).f2,(rd_T34 y445 a1).f3,(rd_T34 y445 a1).f4⟩:S34)) l0_1).bind fun bt458=>(if ((t443 == 0) == (bt458.2.2.2 == 0))=true then ((table_Same.f t436 t439 bt458.1 bt458.2.1).bind fun t467=>(some t467)) else (some false))) else (none))=some true:=by first|(rw [hy455];with_reducible exact H)|(have H2_:=(Option.bind_some _ _).symm.trans H;rw [hy455];with_reducible exact H2_)|(have H2_:=(Option.bind_some _ _).symm.trans H;with_reducible exact H2_)|with_reducible exact H|(rw [hy455];exact H)|exact H
   have Ny455:=Y0 hy455
   clear hy455
   obtain ⟨y456,hy456⟩:∃ y_:List (S36),y_=(y455.set (a3:Int).toNat (⟨(rd_T36 y450 a2).f0,(rd_T36 y450 a2).f1,(rd_T36 y450 a2).f2,(rd_T36 y450 a2).f3,(rd_T36 y450 a2).f4,(rd_T36 y450 a2).f5,(rd_T36 y450 a2).f6⟩:S36)):=⟨_,rfl⟩
   replace H:(if a1 < (y445.length:Int) then ((table_Resolve.f (y445.set (a1:Int).toNat (⟨(rd_T34 y445 a1).f0,y456,(rd_T34 y445 a1).f2,(rd_T34 y445 a1).f3,(rd_T34 y445 a1).f4⟩:S34)) l0_1).bind fun bt458=>(if ((t443 == 0) == (bt458.2.2.2 == 0))=true then ((table_Same.f t436 t439 bt458.1 bt458.2.1).bind fun t467=>(some t467)) else (some false))) else (none))=some true:=by first|(rw [hy456];with_reducible exact H)|(have H2_:=(Option.bind_some _ _).symm.trans H;rw [hy456];with_reducible exact H2_)|(have H2_:=(Option.bind_some _ _).symm.trans H;with_reducible exact H2_)|with_reducible exact H|(rw [hy456];exact H)|exact H
   have Ny456:=Y0 hy456
   clear hy456
   by_cases c38:a1 < (y445.length:Int)
   rotate_left
   ·rw [if_neg c38] at H
    exact absurd H (by simp)
   rw [if_pos c38] at H
   have c38b0:decide (a1 < (y445.length:Int))=true:=decide_eq_true c38
   clear c38
   obtain ⟨y457,hy457⟩:∃ y_:List (S34),y_=(y445.set (a1:Int).toNat (⟨(rd_T34 y445 a1).f0,y456,(rd_T34 y445 a1).f2,(rd_T34 y445 a1).f3,(rd_T34 y445 a1).f4⟩:S34)):=⟨_,rfl⟩
   replace H:((table_Resolve.f y457 l0_1).bind fun bt458=>(if ((t443 == 0) == (bt458.2.2.2 == 0))=true then ((table_Same.f t436 t439 bt458.1 bt458.2.1).bind fun t467=>(some t467)) else (some false)))=some true:=by first|(rw [hy457];with_reducible exact H)|(have H2_:=(Option.bind_some _ _).symm.trans H;rw [hy457];with_reducible exact H2_)|(have H2_:=(Option.bind_some _ _).symm.trans H;with_reducible exact H2_)|with_reducible exact H|(rw [hy457];exact H)|exact H
   have Ny457:=Y0 hy457
   clear hy457
   replace H:=Y17.mp H
   obtain ⟨⟨t458,t461,t464,t465⟩,A400,H⟩:=H
   try dsimp only at H
   have A40:=Y0 A400
   clear A400
   by_cases c41:((t443 == 0) == (t465 == 0))=true
   rotate_left
   ·rw [if_neg c41] at H
    have c41b0:((t443 == 0) == (t465 == 0))=false:=by simpa using c41
    (try (have c41b1:decide ((t443 == 0)=(t465 == 0))=false:=by simpa using c41))
    (try (have c41b2:((t443 == 0) == (t465 == 0))=false:=by simpa using c41))
    (try (have c41b3:¬ ((t443 == 0)=(t465 == 0)):=by simpa using c41))
    clear c41
    exact absurd (Option.some.inj H) Bool.false_ne_true
   rw [if_pos c41] at H
   have c41b0:((t443 == 0) == (t465 == 0))=true:=c41
   (try (have c41b1:decide ((t443 == 0)=(t465 == 0))=true:=by simpa using c41))
   (try (have c41b2:((t443 == 0) == (t465 == 0))=true:=by simpa using c41))
   clear c41
   replace H:=Y17.mp H
   obtain ⟨t467,A420,H⟩:=H
   try dsimp only at H
   have A42:=Y0 A420
   clear A420
   have hv_:=Option.some.inj H
   have ⟨hcz43_0,hcz43_1,hfz43_0,hfz43_1⟩:=sq_box2 BK431.out
   try go_wp2_with (first|((with_reducible refine gate_callee (f:=18) rfl ?_);refine goesL_ (some 72) rfl rfl Tryz.func18 (by kernel_rfl) rfl #[.agg #[.slice A0_0 l0_0.length c0_0,.slice A0_1 l0_1.length c0_1]] rfl (by (try simp only [List.map_toArray,List.map_cons,List.map_nil]);first|done|rfl|(simp only [List.length_drop,List.length_take];rfl)) ?_;(with_reducible refine (table_Resolve.calls _ _ l0_0 _ _ l0_1 t436 t439 t442 t443 _ ?side1 ?side2 ?side3 ?side4 A27.out).mono ?_);(case side1=>repeat (first|exact (Kd.C_below HR0_0.out HB.out)|(with_reducible refine Y8 ?_ _)|(with_reducible refine Kd.C_drewN ?_ _)|(with_reducible refine Kd.C_drew ?_)));(case side2=>exact HC0_0.out);(case side3=>repeat (first|exact (Kd.C_below HR0_1.out HB.out)|(with_reducible refine Y8 ?_ _)|(with_reducible refine Kd.C_drewN ?_ _)|(with_reducible refine Kd.C_drew ?_)));(case side4=>exact HC0_1.out);rintro e w44 ⟨v437,v440,rfl,ho0,ho1,hb⟩;refine ⟨_,rfl,?_⟩;have n0_:=Y0 (Kd.R_lower ho0 (below_size (by repeat (with_reducible first|exact HB.out|apply Y3|apply Y1|apply Y2|refine Y4 ?_ GE431.out))));have n1_:=Y0 (Kd.R_lower ho1 (below_size (by repeat (with_reducible first|exact HB.out|apply Y3|apply Y1|apply Y2|refine Y4 ?_ GE431.out))));have n2_:=Y0 (blk_below (g:=gb431) (o:=.cells #[.slice A0_0 l0_0.length c0_0,.slice A0_1 l0_1.length c0_1] 26 (0,0)) (by (with_reducible repeat first|apply Y11|apply Y13|apply Y12);exact BK431.out) hb);have n3_:=Y0 (below_step (by repeat (with_reducible first|exact HB.out|apply Y3|apply Y1|apply Y2|refine Y4 ?_ GE431.out)) hb);clear BK431;clear HB;have HO438:=n0_;have HO441:=n1_;have BK431:=n2_;have HB:=n3_;clear n0_ n1_ n2_ n3_;(try clear hb);(try clear hb2);(try clear hk);(try clear hi);(try clear ho0);(try clear ho1))|((with_reducible refine gate_dst (N:=11) rfl ?_);(try (refine gate_guard (by rfl) ?_;dsimp only));refine box_event ?hg (N:=11) ?hd (cs:=#[.slice none 0 0,.slice none 0 0]) (t:=46) ?hr ?_;(case hd=>rfl);(case hg=>rfl);(case hr=>first|(go_simp;done)|(go_simp;rfl));intro gb444 hg w45 hbox hb;have n0_:=Y0 (Kd.R_below (by (with_reducible repeat (first|apply Y5|apply Y6|apply Y7));exact HO438.out) hb);have n1_:=Y0 (Kd.R_below (by (with_reducible repeat (first|apply Y5|apply Y6|apply Y7));exact HO441.out) hb);have n2_:=Y0 (blk_below (g:=gb431) (o:=.cells #[.slice A0_0 l0_0.length c0_0,.slice A0_1 l0_1.length c0_1] 26 (0,0)) (by (with_reducible repeat first|apply Y11|apply Y13|apply Y12);exact BK431.out) hb);have n3_:=Y0 (below_step (by repeat (with_reducible first|exact HB.out|apply Y3|apply Y1|apply Y2|refine Y4 ?_ GE431.out)) hb);have n4_:=Y0 (hbox);have n5_:=Y0 ((by rw [hg];exact (below_size (by repeat (with_reducible first|exact HB.out|apply Y3|apply Y1|apply Y2|refine Y4 ?_ GE431.out))):w.heap.size≤gb444));have n6_:=Y0 ((by rw [hg];exact (below_size (by repeat (with_reducible first|exact HB.out|apply Y3|apply Y1|apply Y2|refine Y4 ?_ GE431.out))):w.heap.size≤gb444));have n7_:=Y0 ((by rw [hg];exact Nat.ne_of_lt (blk_lt (g:=gb431) (o:=.cells #[.slice A0_0 l0_0.length c0_0,.slice A0_1 l0_1.length c0_1] 26 (0,0)) (by (with_reducible repeat first|apply Y11|apply Y13|apply Y12);exact BK431.out)):gb431≠gb444));have n8_:=Y0 ((by rw [hg];exact Nat.ne_of_gt (blk_lt (g:=gb431) (o:=.cells #[.slice A0_0 l0_0.length c0_0,.slice A0_1 l0_1.length c0_1] 26 (0,0)) (by (with_reducible repeat first|apply Y11|apply Y13|apply Y12);exact BK431.out)):gb444≠gb431));clear HO438;clear HO441;clear BK431;clear HB;have HO438:=n0_;have HO441:=n1_;have BK431:=n2_;have HB:=n3_;have BK444:=n4_;have GW444:=n5_;have GE444:=n6_;have NB431_444:=n7_;have NB444_431:=n8_;clear n0_ n1_ n2_ n3_ n4_ n5_ n6_ n7_ n8_;clear hb hbox hg;obtain ⟨Ao46,co46,eo46⟩:=Kd.R_slice HO438.out;subst eo46;have hnb47:=NB444_431.out;have hnc47:=NB431_444.out;have ⟨hcz48_0,hcz48_1,hfz48_0,hfz48_1⟩:=sq_box2 BK444.out;obtain ⟨Ao49,co49,eo49⟩:=Kd.R_slice HO441.out;subst eo49))
   have n0_:Aside0 (Kd.R k57 57 ((w45.setCell ⟨gb444,0,none⟩ (.slice Ao46 t436.length co46)).setCell ⟨gb444,1,none⟩ (.slice Ao49 t439.length co49)) w.heap.size (fun _=>True) (.slice Ao46 t436.length co46) t436):=⟨by (with_reducible repeat (first|apply Y5|apply Y6|apply Y7));exact Kd.R_mono (Kd.R_far (p:=⟨gb444,1,none⟩) (Kd.R_far (p:=⟨gb444,0,none⟩) (Kd.R_types HO438.out BK444.out (by first|decide|(simp only [msX_E,msY_E];decide))) (fun _ hk=>hk.2) (.slice Ao46 t436.length co46)) (fun _ hk=>hk.2) (.slice Ao49 t439.length co49)) (fun _ hk=>trivial)⟩
   have n1_:Aside0 (Kd.R k119 119 ((w45.setCell ⟨gb444,0,none⟩ (.slice Ao46 t436.length co46)).setCell ⟨gb444,1,none⟩ (.slice Ao49 t439.length co49)) w.heap.size (fun _=>True) (.slice Ao49 t439.length co49) t439):=⟨by (with_reducible repeat (first|apply Y5|apply Y6|apply Y7));exact Kd.R_mono (Kd.R_far (p:=⟨gb444,1,none⟩) (Kd.R_far (p:=⟨gb444,0,none⟩) (Kd.R_types HO441.out BK444.out (by first|decide|(simp only [msX_E,msY_E];decide))) (fun _ hk=>hk.2) (.slice Ao46 t436.length co46)) (fun _ hk=>hk.2) (.slice Ao49 t439.length co49)) (fun _ hk=>trivial)⟩
   have n2_:Aside0 (((w45.setCell ⟨gb444,0,none⟩ (.slice Ao46 t436.length co46)).setCell ⟨gb444,1,none⟩ (.slice Ao49 t439.length co49)).heap[gb431]?=some (.cells #[.slice A0_0 l0_0.length c0_0,.slice A0_1 l0_1.length c0_1] 26 (0,0))):=⟨by (with_reducible repeat first|apply Y11|apply Y13|apply Y12);refine blk_far ?_ NB431_444.out _;(with_reducible repeat first|apply Y11|apply Y13|apply Y12);refine blk_far ?_ NB431_444.out _;(with_reducible repeat first|apply Y11|apply Y13|apply Y12);exact BK431.out⟩
   have n3_:Aside0 (((w45.setCell ⟨gb444,0,none⟩ (.slice Ao46 t436.length co46)).setCell ⟨gb444,1,none⟩ (.slice Ao49 t439.length co49)).heap[gb444]?=some (.cells #[.slice Ao46 t436.length co46,.slice Ao49 t439.length co49] 46 (0,0))):=⟨by (with_reducible repeat first|apply Y11|apply Y13|apply Y12);refine blk_put (cs:=#[.slice Ao46 t436.length co46,.slice none 0 0]) ?_ 1 _ rfl;(with_reducible repeat first|apply Y11|apply Y13|apply Y12);refine blk_put (cs:=#[.slice none 0 0,.slice none 0 0]) ?_ 0 _ rfl;(with_reducible repeat first|apply Y11|apply Y13|apply Y12);exact BK444.out⟩
   have n4_:Aside0 (Below w.heap.size w ((w45.setCell ⟨gb444,0,none⟩ (.slice Ao46 t436.length co46)).setCell ⟨gb444,1,none⟩ (.slice Ao49 t439.length co49))):=⟨by repeat (with_reducible first|exact HB.out|apply Y3|apply Y1|apply Y2|refine Y4 ?_ GE431.out|refine Y4 ?_ GE444.out)⟩
   (try clear HO438)
   (try clear HO441)
   (try clear BK431)
   (try clear BK444)
   (try clear HB)
   generalize ((w45.setCell ⟨gb444,0,none⟩ (.slice Ao46 t436.length co46)).setCell ⟨gb444,1,none⟩ (.slice Ao49 t439.length co49))=w50 at n0_ n1_ n2_ n3_ n4_ ⊢
   have HO438:=n0_
   have HO441:=n1_
   have BK431:=n2_
   have BK444:=n3_
   have HB:=n4_
   clear n0_ n1_ n2_ n3_ n4_
   have n0_:=Y0 (Kd.R_drew HO438.out)
   have n1_:=Y0 (Kd.R_drew HO441.out)
   have n2_:=Y0 (blk_drew BK431.out)
   have n3_:=Y0 (blk_drew BK444.out)
   have n4_:=Y0 (below_drew1 HB.out)
   clear HO438
   clear HO441
   clear BK431
   clear BK444
   clear HB
   have HO438:=n0_
   have HO441:=n1_
   have BK431:=n2_
   have BK444:=n3_
   have HB:=n4_
   clear n0_ n1_ n2_ n3_ n4_
   refine start_ (n:=8) (S:=fun w'=>w'.cell? ⟨gb431,0,none⟩=some (.slice A0_0 l0_0.length c0_0)∧w'.cell? ⟨gb431,1,none⟩=some (.slice A0_1 l0_1.length c0_1)) (ds:=[]) #[false,false,false,false,false,false,false,false] (by kernel_rfl) rfl rfl ⟨(blk_cell BK431.out 0).trans rfl,(blk_cell BK431.out 1).trans rfl⟩ (fun hHeld=>?_);refine with_tabW trufflelaw08_TableOrder.tab6 trufflelaw08_TableOrder.bits6 (fun HT_ HW_=>?_)
   generalize w50.drew=w51 at HO438 HO441 BK431 BK444 HB hHeld ⊢
   refine pure_ (i:=0) (N:=some 76) (v:=?_) (a':=?_) (sqB 8 1) rfl rfl (any_of HT_.out (by kernel_rfl)) (fun _ _ _ h=>h) (Or.inl ⟨by rfl,?_⟩) ?_ ?_;rotate_left;intro w';go_simp;with_reducible rfl;rotate_left;simp only [Act.put,Y14,Y15,Y16];rfl
   refine pure_ (i:=3) (N:=some 79) (v:=?_) (a':=?_) (sqB 8 9) rfl rfl (any_of HT_.out (by kernel_rfl)) (fun _ _ _ h=>h) (Or.inl ⟨by rfl,?_⟩) ?_ ?_;rotate_left;intro w';go_simp;with_reducible rfl;rotate_left;simp only [Act.put,Y14,Y15,Y16];rfl
   refine take_ (i:=1) (N:=some 77) (v:=?_) (a':=?_) (sqB 8 11) rfl rfl (take_ofW HT_.out HW_.out (by kernel_rfl)) (fun _ _ _ h=>h) (Or.inl ⟨by rfl,?_⟩) hHeld ?_ ?_;rotate_left;rintro w' ⟨s0,s1⟩;go_simp;with_reducible rfl;rotate_left;simp only [Act.put,Y14,Y15,Y16];rfl
   refine take_ (i:=4) (N:=some 80) (v:=?_) (a':=?_) (sqB 8 27) rfl rfl (take_ofW HT_.out HW_.out (by kernel_rfl)) (fun _ _ _ h=>h) (Or.inl ⟨by rfl,?_⟩) hHeld ?_ ?_;rotate_left;rintro w' ⟨s0,s1⟩;go_simp;with_reducible rfl;rotate_left;simp only [Act.put,Y14,Y15,Y16];rfl
   refine join_ (σ:=Value × Nat) 1 #[true,true,true,true,true,true,true,false] (fun s_=>[(78,s_.1),(14,.pointer (some ⟨s_.2,0,none⟩)),(81,.agg #[s_.1,.slice A0_1 l0_1.length c0_1])]) (fun s_ w'=>(w'.cell? ⟨gb431,0,none⟩=some (.slice A0_0 l0_0.length c0_0)∧w'.cell? ⟨gb431,1,none⟩=some (.slice A0_1 l0_1.length c0_1))∧(Kd.R k57 57 w' w.heap.size (fun _=>True) (.slice Ao46 t436.length co46) t436)∧(Kd.R k119 119 w' w.heap.size (fun _=>True) (.slice Ao49 t439.length co49) t439)∧(Kd.R (kMsX w) 34 w' w.heap.size (fun _=>True) s_.1 y445)∧(w'.heap[gb431]?=some (.cells #[.slice A0_0 l0_0.length c0_0,.slice A0_1 l0_1.length c0_1] 26 (0,0)))∧(w'.heap[gb444]?=some (.cells #[.slice Ao46 t436.length co46,.slice Ao49 t439.length co49] 46 (0,0)))∧(w'.heap[s_.2]?=some (.cells #[.slice none 0 0,.slice none 0 0] 26 (0,0)))∧(w.heap.size≤s_.2)∧(w.heap.size≤s_.2)∧(gb431≠s_.2)∧(s_.2≠gb431)∧(gb444≠s_.2)∧(s_.2≠gb444)∧(Below w.heap.size w w')) ?_ ?_
   rotate_left
   ·intro hCont
    refine two_ (i:=2) (j:=6) (Ni:=some 78) (Nj:=some 14) #[true,true,true,true,true,false,false,false] #[true,true,false,true,true,false,true,false] rfl rfl rfl rfl (two_of HT_.out (by kernel_rfl)) (by decide) (by decide) (fun K hK=>?_) (fun K hK=>?_)
    ·skip
     refine Kd.R_append_rows_step (kMsX w) (w0:=w) w.heap.size (by rfl) (.const (.slice none 0 0)) (.tmp 77) 23 34 (.agg #[(.string ⟨#[]⟩),(.slice none 0 0),(.slice none 0 0),(.slice none 0 0),(.int .i64 0)]) 96 rfl Tryz.underlying23 info34 rfl (show 0 < 5 from by decide) (by omega) (.slice none 0 0) ([]:List (S34)) l0_0 _ _ _ (fun _=>True) (fun _=>False) rfl rfl ?aO ?aR (fun _ _ h=>msX_came h) (fun _ h=>h.elim) ?aF ?aB ?aS ?aL ?_
     (case aR=>exact msX_row HR0_0.out (by repeat (with_reducible first|exact HB.out|apply Y3|apply Y1|apply Y2|refine Y4 ?_ GE431.out|refine Y4 ?_ GE444.out)))
     (case aB=>exact (by repeat (with_reducible first|exact HB.out|apply Y3|apply Y1|apply Y2|refine Y4 ?_ GE431.out|refine Y4 ?_ GE444.out)))
     (case aF=>exact (fun _ _=>trivial))
     (case aO=>exact ((Kd.R_nil _ _ _ _ _)))
     (case aS=>exact (below_size (by repeat (with_reducible first|exact HB.out|apply Y3|apply Y1|apply Y2|refine Y4 ?_ GE431.out|refine Y4 ?_ GE444.out))))
     (case aL=>have:=LMc28.out;omega)
     intro v446 w52 ho hb hg hat
     rw [← Ny445.out] at ho
     have n0_:=Y0 (blk_grown (g:=gb431) (o:=.cells #[.slice A0_0 l0_0.length c0_0,.slice A0_1 l0_1.length c0_1] 26 (0,0)) (by (with_reducible repeat first|apply Y11|apply Y13|apply Y12);exact BK431.out) hg (by simp [Value.ownBlock]))
     have n1_:=Y0 (Kd.R_grown (by (with_reducible repeat (first|apply Y5|apply Y6|apply Y7));exact HO438.out) hg (fun _ _=>by simp [Value.ownBlock]))
     have n2_:=Y0 (Kd.R_grown (by (with_reducible repeat (first|apply Y5|apply Y6|apply Y7));exact HO441.out) hg (fun _ _=>by simp [Value.ownBlock]))
     have n3_:=Y0 (blk_grown (g:=gb444) (o:=.cells #[.slice Ao46 t436.length co46,.slice Ao49 t439.length co49] 46 (0,0)) (by (with_reducible repeat first|apply Y11|apply Y13|apply Y12);exact BK444.out) hg (by simp [Value.ownBlock]))
     have n4_:=Y0 (hb)
     have n5_:=Y0 (ho)
     clear BK431
     clear HO438
     clear HO441
     clear BK444
     clear HB
     have BK431:=n0_
     have HO438:=n1_
     have HO441:=n2_
     have BK444:=n3_
     have HB:=n4_
     have HO447:=n5_
     clear n0_ n1_ n2_ n3_ n4_ n5_
     clear ho hb hg hat
     obtain ⟨Ao53,co53,eo53⟩:=Kd.R_slice HO447.out
     (first|subst eo53|(injection eo53 with f1_ f2_ f3_;have f4_:=f1_.symm;have f5_:=f3_.symm;clear f1_ f2_ f3_;subst f4_;subst f5_))
     refine hK.out _ _ ⟨(blk_cell BK431.out 0).trans rfl,(blk_cell BK431.out 1).trans rfl⟩ (fun hHeld=>?_)
     clear hK K
     refine norm_ (a':=?_) ?_ ?_;rotate_left;show Act.put _ (some 78) _=_;simp only [Act.put,Y14,Y15,Y16];rfl
     refine pure_ (i:=5) (N:=some 81) (v:=?_) (a':=?_) (sqB 8 63) rfl rfl (any_of HT_.out (by kernel_rfl)) (fun _ _ _ h=>h) (Or.inl ⟨by rfl,?_⟩) ?_ ?_;rotate_left;intro w';go_simp;with_reducible rfl;rotate_left;simp only [Act.put,Y14,Y15,Y16];rfl
     refine one_ (i:=6) (N:=some 14) (sqB 8 127) rfl rfl (one_of HT_.out (by kernel_rfl)) (by decide) (fun K hK=>?_)
     refine box_step ?hg (N:=14) ?hd (cs:=#[.slice none 0 0,.slice none 0 0]) (t:=26) ?hr ?_;(case hd=>rfl);(case hg=>rfl);(case hr=>first|(go_simp;done)|(go_simp;rfl))
     intro gb448 hg w54 hbox hb
     have n0_:=Y0 (Kd.R_below (by (with_reducible repeat (first|apply Y5|apply Y6|apply Y7));exact HO438.out) hb)
     have n1_:=Y0 (Kd.R_below (by (with_reducible repeat (first|apply Y5|apply Y6|apply Y7));exact HO441.out) hb)
     have n2_:=Y0 (Kd.R_below (by (with_reducible repeat (first|apply Y5|apply Y6|apply Y7));exact HO447.out) hb)
     have n3_:=Y0 (blk_below (g:=gb431) (o:=.cells #[.slice A0_0 l0_0.length c0_0,.slice A0_1 l0_1.length c0_1] 26 (0,0)) (by (with_reducible repeat first|apply Y11|apply Y13|apply Y12);exact BK431.out) hb)
     have n4_:=Y0 (blk_below (g:=gb444) (o:=.cells #[.slice Ao46 t436.length co46,.slice Ao49 t439.length co49] 46 (0,0)) (by (with_reducible repeat first|apply Y11|apply Y13|apply Y12);exact BK444.out) hb)
     have n5_:=Y0 (below_step (by repeat (with_reducible first|exact HB.out|apply Y3|apply Y1|apply Y2|refine Y4 ?_ GE431.out|refine Y4 ?_ GE444.out)) hb)
     have n6_:=Y0 (hbox)
     have n7_:=Y0 ((by rw [hg];exact (below_size (by repeat (with_reducible first|exact HB.out|apply Y3|apply Y1|apply Y2|refine Y4 ?_ GE431.out|refine Y4 ?_ GE444.out))):w.heap.size≤gb448))
     have n8_:=Y0 ((by rw [hg];exact (below_size (by repeat (with_reducible first|exact HB.out|apply Y3|apply Y1|apply Y2|refine Y4 ?_ GE431.out|refine Y4 ?_ GE444.out))):w.heap.size≤gb448))
     have n9_:=Y0 ((by rw [hg];exact Nat.ne_of_lt (blk_lt (g:=gb431) (o:=.cells #[.slice A0_0 l0_0.length c0_0,.slice A0_1 l0_1.length c0_1] 26 (0,0)) (by (with_reducible repeat first|apply Y11|apply Y13|apply Y12);exact BK431.out)):gb431≠gb448))
     have n10_:=Y0 ((by rw [hg];exact Nat.ne_of_gt (blk_lt (g:=gb431) (o:=.cells #[.slice A0_0 l0_0.length c0_0,.slice A0_1 l0_1.length c0_1] 26 (0,0)) (by (with_reducible repeat first|apply Y11|apply Y13|apply Y12);exact BK431.out)):gb448≠gb431))
     have n11_:=Y0 ((by rw [hg];exact Nat.ne_of_lt (blk_lt (g:=gb444) (o:=.cells #[.slice Ao46 t436.length co46,.slice Ao49 t439.length co49] 46 (0,0)) (by (with_reducible repeat first|apply Y11|apply Y13|apply Y12);exact BK444.out)):gb444≠gb448))
     have n12_:=Y0 ((by rw [hg];exact Nat.ne_of_gt (blk_lt (g:=gb444) (o:=.cells #[.slice Ao46 t436.length co46,.slice Ao49 t439.length co49] 46 (0,0)) (by (with_reducible repeat first|apply Y11|apply Y13|apply Y12);exact BK444.out)):gb448≠gb444))
     clear HO438
     clear HO441
     clear HO447
     clear BK431
     clear BK444
     clear HB
     have HO438:=n0_
     have HO441:=n1_
     have HO447:=n2_
     have BK431:=n3_
     have BK444:=n4_
     have HB:=n5_
     have BK448:=n6_
     have GW448:=n7_
     have GE448:=n8_
     have NB431_448:=n9_
     have NB448_431:=n10_
     have NB444_448:=n11_
     have NB448_444:=n12_
     clear n0_ n1_ n2_ n3_ n4_ n5_ n6_ n7_ n8_ n9_ n10_ n11_ n12_
     clear hb hbox hg
     refine hK.out _ _ ⟨(blk_cell BK431.out 0).trans rfl,(blk_cell BK431.out 1).trans rfl⟩ (fun hHeld=>?_)
     clear hK K
     refine norm_ (a':=?_) ?_ ?_;rotate_left;show Act.put _ (some 14) _=_;simp only [Act.put,Y14,Y15,Y16];rfl
     exact norm_ (by simp only [putAll,Act.put,List.setIfInBounds_toArray,List.set_cons_zero,List.set_cons_succ]) (hCont (.slice Ao53 y445.length co53,gb448) _ ⟨hHeld,(by (with_reducible repeat (first|apply Y5|apply Y6|apply Y7));exact HO438.out),(by (with_reducible repeat (first|apply Y5|apply Y6|apply Y7));exact HO441.out),(by (with_reducible repeat (first|apply Y5|apply Y6|apply Y7));exact HO447.out),(by (with_reducible repeat first|apply Y11|apply Y13|apply Y12);exact BK431.out),(by (with_reducible repeat first|apply Y11|apply Y13|apply Y12);exact BK444.out),(by (with_reducible repeat first|apply Y11|apply Y13|apply Y12);exact BK448.out),GW448.out,GE448.out,NB431_448.out,NB448_431.out,NB444_448.out,NB448_444.out,(by repeat (with_reducible first|exact HB.out|apply Y3|apply Y1|apply Y2|refine Y4 ?_ GE431.out|refine Y4 ?_ GE444.out|refine Y4 ?_ GE448.out))⟩)
    ·skip
     refine box_step ?hg (N:=14) ?hd (cs:=#[.slice none 0 0,.slice none 0 0]) (t:=26) ?hr ?_;(case hd=>rfl);(case hg=>rfl);(case hr=>first|(go_simp;done)|(go_simp;rfl))
     intro gb448 hg w52 hbox hb
     have n0_:=Y0 (Kd.R_below (by (with_reducible repeat (first|apply Y5|apply Y6|apply Y7));exact HO438.out) hb)
     have n1_:=Y0 (Kd.R_below (by (with_reducible repeat (first|apply Y5|apply Y6|apply Y7));exact HO441.out) hb)
     have n2_:=Y0 (blk_below (g:=gb431) (o:=.cells #[.slice A0_0 l0_0.length c0_0,.slice A0_1 l0_1.length c0_1] 26 (0,0)) (by (with_reducible repeat first|apply Y11|apply Y13|apply Y12);exact BK431.out) hb)
     have n3_:=Y0 (blk_below (g:=gb444) (o:=.cells #[.slice Ao46 t436.length co46,.slice Ao49 t439.length co49] 46 (0,0)) (by (with_reducible repeat first|apply Y11|apply Y13|apply Y12);exact BK444.out) hb)
     have n4_:=Y0 (below_step (by repeat (with_reducible first|exact HB.out|apply Y3|apply Y1|apply Y2|refine Y4 ?_ GE431.out|refine Y4 ?_ GE444.out)) hb)
     have n5_:=Y0 (hbox)
     have n6_:=Y0 ((by rw [hg];exact (below_size (by repeat (with_reducible first|exact HB.out|apply Y3|apply Y1|apply Y2|refine Y4 ?_ GE431.out|refine Y4 ?_ GE444.out))):w.heap.size≤gb448))
     have n7_:=Y0 ((by rw [hg];exact (below_size (by repeat (with_reducible first|exact HB.out|apply Y3|apply Y1|apply Y2|refine Y4 ?_ GE431.out|refine Y4 ?_ GE444.out))):w.heap.size≤gb448))
     have n8_:=Y0 ((by rw [hg];exact Nat.ne_of_lt (blk_lt (g:=gb431) (o:=.cells #[.slice A0_0 l0_0.length c0_0,.slice A0_1 l0_1.length c0_1] 26 (0,0)) (by (with_reducible repeat first|apply Y11|apply Y13|apply Y12);exact BK431.out)):gb431≠gb448))
     have n9_:=Y0 ((by rw [hg];exact Nat.ne_of_gt (blk_lt (g:=gb431) (o:=.cells #[.slice A0_0 l0_0.length c0_0,.slice A0_1 l0_1.length c0_1] 26 (0,0)) (by (with_reducible repeat first|apply Y11|apply Y13|apply Y12);exact BK431.out)):gb448≠gb431))
     have n10_:=Y0 ((by rw [hg];exact Nat.ne_of_lt (blk_lt (g:=gb444) (o:=.cells #[.slice Ao46 t436.length co46,.slice Ao49 t439.length co49] 46 (0,0)) (by (with_reducible repeat first|apply Y11|apply Y13|apply Y12);exact BK444.out)):gb444≠gb448))
     have n11_:=Y0 ((by rw [hg];exact Nat.ne_of_gt (blk_lt (g:=gb444) (o:=.cells #[.slice Ao46 t436.length co46,.slice Ao49 t439.length co49] 46 (0,0)) (by (with_reducible repeat first|apply Y11|apply Y13|apply Y12);exact BK444.out)):gb448≠gb444))
     clear HO438
     clear HO441
     clear BK431
     clear BK444
     clear HB
     have HO438:=n0_
     have HO441:=n1_
     have BK431:=n2_
     have BK444:=n3_
     have HB:=n4_
     have BK448:=n5_
     have GW448:=n6_
     have GE448:=n7_
     have NB431_448:=n8_
     have NB448_431:=n9_
     have NB444_448:=n10_
     have NB448_444:=n11_
     clear n0_ n1_ n2_ n3_ n4_ n5_ n6_ n7_ n8_ n9_ n10_ n11_
     clear hb hbox hg
     refine hK.out _ _ ⟨(blk_cell BK431.out 0).trans rfl,(blk_cell BK431.out 1).trans rfl⟩ (fun hHeld=>?_)
     clear hK K
     refine norm_ (a':=?_) ?_ ?_;rotate_left;show Act.put _ (some 14) _=_;simp only [Act.put,Y14,Y15,Y16];rfl
     refine one_ (i:=2) (N:=some 78) (sqB 8 95) rfl rfl (one_of HT_.out (by kernel_rfl)) (by decide) (fun K hK=>?_)
     refine Kd.R_append_rows_step (kMsX w) (w0:=w) w.heap.size (by rfl) (.const (.slice none 0 0)) (.tmp 77) 23 34 (.agg #[(.string ⟨#[]⟩),(.slice none 0 0),(.slice none 0 0),(.slice none 0 0),(.int .i64 0)]) 96 rfl Tryz.underlying23 info34 rfl (show 0 < 5 from by decide) (by omega) (.slice none 0 0) ([]:List (S34)) l0_0 _ _ _ (fun _=>True) (fun _=>False) rfl rfl ?aO ?aR (fun _ _ h=>msX_came h) (fun _ h=>h.elim) ?aF ?aB ?aS ?aL ?_
     (case aR=>exact msX_row HR0_0.out (by repeat (with_reducible first|exact HB.out|apply Y3|apply Y1|apply Y2|refine Y4 ?_ GE431.out|refine Y4 ?_ GE444.out|refine Y4 ?_ GE448.out)))
     (case aB=>exact (by repeat (with_reducible first|exact HB.out|apply Y3|apply Y1|apply Y2|refine Y4 ?_ GE431.out|refine Y4 ?_ GE444.out|refine Y4 ?_ GE448.out)))
     (case aF=>exact (fun _ _=>trivial))
     (case aO=>exact ((Kd.R_nil _ _ _ _ _)))
     (case aS=>exact (below_size (by repeat (with_reducible first|exact HB.out|apply Y3|apply Y1|apply Y2|refine Y4 ?_ GE431.out|refine Y4 ?_ GE444.out|refine Y4 ?_ GE448.out))))
     (case aL=>have:=LMc28.out;omega)
     intro v446 w53 ho hb hg hat
     rw [← Ny445.out] at ho
     have n0_:=Y0 (blk_grown (g:=gb431) (o:=.cells #[.slice A0_0 l0_0.length c0_0,.slice A0_1 l0_1.length c0_1] 26 (0,0)) (by (with_reducible repeat first|apply Y11|apply Y13|apply Y12);exact BK431.out) hg (by simp [Value.ownBlock]))
     have n1_:=Y0 (Kd.R_grown (by (with_reducible repeat (first|apply Y5|apply Y6|apply Y7));exact HO438.out) hg (fun _ _=>by simp [Value.ownBlock]))
     have n2_:=Y0 (Kd.R_grown (by (with_reducible repeat (first|apply Y5|apply Y6|apply Y7));exact HO441.out) hg (fun _ _=>by simp [Value.ownBlock]))
     have n3_:=Y0 (blk_grown (g:=gb444) (o:=.cells #[.slice Ao46 t436.length co46,.slice Ao49 t439.length co49] 46 (0,0)) (by (with_reducible repeat first|apply Y11|apply Y13|apply Y12);exact BK444.out) hg (by simp [Value.ownBlock]))
     have n4_:=Y0 (blk_grown (g:=gb448) (o:=.cells #[.slice none 0 0,.slice none 0 0] 26 (0,0)) (by (with_reducible repeat first|apply Y11|apply Y13|apply Y12);exact BK448.out) hg (by simp [Value.ownBlock]))
     have n5_:=Y0 (hb)
     have n6_:=Y0 (ho)
     clear BK431
     clear HO438
     clear HO441
     clear BK444
     clear BK448
     clear HB
     have BK431:=n0_
     have HO438:=n1_
     have HO441:=n2_
     have BK444:=n3_
     have BK448:=n4_
     have HB:=n5_
     have HO447:=n6_
     clear n0_ n1_ n2_ n3_ n4_ n5_ n6_
     clear ho hb hg hat
     obtain ⟨Ao54,co54,eo54⟩:=Kd.R_slice HO447.out
     (first|subst eo54|(injection eo54 with f1_ f2_ f3_;have f4_:=f1_.symm;have f5_:=f3_.symm;clear f1_ f2_ f3_;subst f4_;subst f5_))
     refine hK.out _ _ ⟨(blk_cell BK431.out 0).trans rfl,(blk_cell BK431.out 1).trans rfl⟩ (fun hHeld=>?_)
     clear hK K
     refine norm_ (a':=?_) ?_ ?_;rotate_left;show Act.put _ (some 78) _=_;simp only [Act.put,Y14,Y15,Y16];rfl
     refine pure_ (i:=5) (N:=some 81) (v:=?_) (a':=?_) (sqB 8 127) rfl rfl (any_of HT_.out (by kernel_rfl)) (fun _ _ _ h=>h) (Or.inl ⟨by rfl,?_⟩) ?_ ?_;rotate_left;intro w';go_simp;with_reducible rfl;rotate_left;simp only [Act.put,Y14,Y15,Y16];rfl
     exact norm_ (by simp only [putAll,Act.put,List.setIfInBounds_toArray,List.set_cons_zero,List.set_cons_succ]) (hCont (.slice Ao54 y445.length co54,gb448) _ ⟨hHeld,(by (with_reducible repeat (first|apply Y5|apply Y6|apply Y7));exact HO438.out),(by (with_reducible repeat (first|apply Y5|apply Y6|apply Y7));exact HO441.out),(by (with_reducible repeat (first|apply Y5|apply Y6|apply Y7));exact HO447.out),(by (with_reducible repeat first|apply Y11|apply Y13|apply Y12);exact BK431.out),(by (with_reducible repeat first|apply Y11|apply Y13|apply Y12);exact BK444.out),(by (with_reducible repeat first|apply Y11|apply Y13|apply Y12);exact BK448.out),GW448.out,GE448.out,NB431_448.out,NB448_431.out,NB444_448.out,NB448_444.out,(by repeat (with_reducible first|exact HB.out|apply Y3|apply Y1|apply Y2|refine Y4 ?_ GE431.out|refine Y4 ?_ GE444.out|refine Y4 ?_ GE448.out))⟩)
   rintro ⟨v446,gb448⟩ w55 ⟨hS_,h0_,h1_,h2_,h3_,h4_,h5_,h6_,h7_,h8_,h9_,h10_,h11_,h12_⟩
   have n0_:Aside0 (Kd.R k57 57 w55 w.heap.size (fun _=>True) (.slice Ao46 t436.length co46) t436):=⟨h0_⟩
   have n1_:Aside0 (Kd.R k119 119 w55 w.heap.size (fun _=>True) (.slice Ao49 t439.length co49) t439):=⟨h1_⟩
   have n2_:Aside0 (Kd.R (kMsX w) 34 w55 w.heap.size (fun _=>True) v446 y445):=⟨h2_⟩
   have n3_:Aside0 (w55.heap[gb431]?=some (.cells #[.slice A0_0 l0_0.length c0_0,.slice A0_1 l0_1.length c0_1] 26 (0,0))):=⟨h3_⟩
   have n4_:Aside0 (w55.heap[gb444]?=some (.cells #[.slice Ao46 t436.length co46,.slice Ao49 t439.length co49] 46 (0,0))):=⟨h4_⟩
   have n5_:Aside0 (w55.heap[gb448]?=some (.cells #[.slice none 0 0,.slice none 0 0] 26 (0,0))):=⟨h5_⟩
   have n6_:Aside0 (w.heap.size≤gb448):=⟨h6_⟩
   have n7_:Aside0 (w.heap.size≤gb448):=⟨h7_⟩
   have n8_:Aside0 (gb431≠gb448):=⟨h8_⟩
   have n9_:Aside0 (gb448≠gb431):=⟨h9_⟩
   have n10_:Aside0 (gb444≠gb448):=⟨h10_⟩
   have n11_:Aside0 (gb448≠gb444):=⟨h11_⟩
   have n12_:Aside0 (Below w.heap.size w w55):=⟨h12_⟩
   clear HO438
   clear HO441
   clear BK431
   clear BK444
   clear HB
   clear h0_ h1_ h2_ h3_ h4_ h5_ h6_ h7_ h8_ h9_ h10_ h11_ h12_
   have HO438:=n0_
   have HO441:=n1_
   have HO447:=n2_
   have BK431:=n3_
   have BK444:=n4_
   have BK448:=n5_
   have GW448:=n6_
   have GE448:=n7_
   have NB431_448:=n8_
   have NB448_431:=n9_
   have NB444_448:=n10_
   have NB448_444:=n11_
   have HB:=n12_
   clear n0_ n1_ n2_ n3_ n4_ n5_ n6_ n7_ n8_ n9_ n10_ n11_ n12_
   have hHeld:w55.cell? ⟨gb431,0,none⟩=some (.slice A0_0 l0_0.length c0_0)∧w55.cell? ⟨gb431,1,none⟩=some (.slice A0_1 l0_1.length c0_1):=hS_
   obtain ⟨Ao56,co56,eo56⟩:=Kd.R_slice HO447.out
   (first|subst eo56|(injection eo56 with f1_ f2_ f3_;have f4_:=f1_.symm;have f5_:=f3_.symm;clear f1_ f2_ f3_;subst f4_;subst f5_))
   refine norm_ (a':=?_) ?_ ?_
   rotate_left
   ·simp only [putAll,Act.put,List.setIfInBounds_toArray,List.set_cons_zero,List.set_cons_succ]
    rfl
   refine one_ (i:=7) (N:=none) (sqB 8 255) rfl rfl (one_of HT_.out (by kernel_rfl)) (by decide) (fun K hK=>?_)
   have hs57:w55.cell? ⟨gb448,0,none⟩=some (.slice none 0 0):=(blk_cell BK448.out 0).trans rfl
   have hfs57:=blk_frozen BK448.out 0
   have hns57_0:=NB431_448.out
   have hns57_1:=NB444_448.out
   have hms57_0:=NB448_431.out
   have hms57_1:=NB448_444.out
   have hs58:w55.cell? ⟨gb448,1,none⟩=some (.slice none 0 0):=(blk_cell BK448.out 1).trans rfl
   have hfs58:=blk_frozen BK448.out 1
   have hns58_0:=NB431_448.out
   have hns58_1:=NB444_448.out
   have hms58_0:=NB448_431.out
   have hms58_1:=NB448_444.out
   refine skip_ (w1:=?_) (by rfl) rfl ?_ ?_
   rotate_left
   ·go_simp
    rfl
   refine hK.out _ _ ⟨((cell_far (p:=⟨gb448,_,none⟩) NB431_448.out _).trans (((cell_far (p:=⟨gb448,_,none⟩) NB431_448.out _).trans (hHeld.1)))),((cell_far (p:=⟨gb448,_,none⟩) NB431_448.out _).trans (((cell_far (p:=⟨gb448,_,none⟩) NB431_448.out _).trans (hHeld.2))))⟩ (fun hHeld=>?_)
   clear hK K
   refine done_ (done_of HT_.out (by kernel_rfl)) ?_
   have hnb59:=NB431_448.out
   have hnc59:=NB448_431.out
   have ⟨hcz60_0,hcz60_1,hfz60_0,hfz60_1⟩:=sq_box2 BK431.out
   have p449:0≤(a1:Int):=of_decide_eq_true (by first|(with_reducible assumption)|assumption)
   have q449:a1 < (l0_0.length:Int):=of_decide_eq_true (by first|(with_reducible assumption)|assumption)
   obtain ⟨ad449,A449_1,c449_1,A449_2,c449_2,A449_3,c449_3,e449,hx449_0,hx449_1,hx449_2,hx449_3,hx449_4,hl449_1,hi449_1,hl449_2,hi449_2,hl449_3,hi449_3⟩:=at_T34 HR0_0.out a1 p449 q449
   cases e449
   have hn449_0:ad449.block≠gb448:=Nat.ne_of_lt (Nat.lt_of_lt_of_le (by have:=World.block_lt_of_cell? _ _ hx449_0;first|rwa [add_block] at this|exact this) GW448.out)
   have hn449_1:ad449.block≠gb448:=Nat.ne_of_lt (Nat.lt_of_lt_of_le (by have:=World.block_lt_of_cell? _ _ hx449_0;first|rwa [add_block] at this|exact this) GW448.out)
   replace hx449_0:=(HB.out.cell (World.block_lt_of_cell? w _ hx449_0)).trans hx449_0
   replace hx449_1:=(HB.out.cell (World.block_lt_of_cell? w _ hx449_1)).trans hx449_1
   replace hx449_2:=(HB.out.cell (World.block_lt_of_cell? w _ hx449_2)).trans hx449_2
   replace hx449_3:=(HB.out.cell (World.block_lt_of_cell? w _ hx449_3)).trans hx449_3
   replace hx449_4:=(HB.out.cell (World.block_lt_of_cell? w _ hx449_4)).trans hx449_4
   have HR449_1:=Y0 hi449_1
   have HC449_1:=Y0 hl449_1
   clear hi449_1 hl449_1
   have HR449_2:=Y0 hi449_2
   have HC449_2:=Y0 hl449_2
   clear hi449_2 hl449_2
   have HR449_3:=Y0 hi449_3
   have HC449_3:=Y0 hl449_3
   clear hi449_3 hl449_3
   replace hx449_0:=(cell_far (p:=⟨gb448,0,none⟩) (by first|(rw [add_block];exact hn449_0)|(show (Addr.add _ _).block≠_;rw [add_block];exact hn449_0)|exact hn449_0) (.slice Ao56 y445.length co56)).trans hx449_0
   replace hx449_1:=(cell_far (p:=⟨gb448,0,none⟩) (by first|(rw [add_block];exact hn449_0)|(show (Addr.add _ _).block≠_;rw [add_block];exact hn449_0)|exact hn449_0) (.slice Ao56 y445.length co56)).trans hx449_1
   replace hx449_2:=(cell_far (p:=⟨gb448,0,none⟩) (by first|(rw [add_block];exact hn449_0)|(show (Addr.add _ _).block≠_;rw [add_block];exact hn449_0)|exact hn449_0) (.slice Ao56 y445.length co56)).trans hx449_2
   replace hx449_3:=(cell_far (p:=⟨gb448,0,none⟩) (by first|(rw [add_block];exact hn449_0)|(show (Addr.add _ _).block≠_;rw [add_block];exact hn449_0)|exact hn449_0) (.slice Ao56 y445.length co56)).trans hx449_3
   replace hx449_4:=(cell_far (p:=⟨gb448,0,none⟩) (by first|(rw [add_block];exact hn449_0)|(show (Addr.add _ _).block≠_;rw [add_block];exact hn449_0)|exact hn449_0) (.slice Ao56 y445.length co56)).trans hx449_4
   replace hx449_0:=(cell_far (p:=⟨gb448,1,none⟩) (by first|(rw [add_block];exact hn449_1)|(show (Addr.add _ _).block≠_;rw [add_block];exact hn449_1)|exact hn449_1) (.slice A0_1 l0_1.length c0_1)).trans hx449_0
   replace hx449_1:=(cell_far (p:=⟨gb448,1,none⟩) (by first|(rw [add_block];exact hn449_1)|(show (Addr.add _ _).block≠_;rw [add_block];exact hn449_1)|exact hn449_1) (.slice A0_1 l0_1.length c0_1)).trans hx449_1
   replace hx449_2:=(cell_far (p:=⟨gb448,1,none⟩) (by first|(rw [add_block];exact hn449_1)|(show (Addr.add _ _).block≠_;rw [add_block];exact hn449_1)|exact hn449_1) (.slice A0_1 l0_1.length c0_1)).trans hx449_2
   replace hx449_3:=(cell_far (p:=⟨gb448,1,none⟩) (by first|(rw [add_block];exact hn449_1)|(show (Addr.add _ _).block≠_;rw [add_block];exact hn449_1)|exact hn449_1) (.slice A0_1 l0_1.length c0_1)).trans hx449_3
   replace hx449_4:=(cell_far (p:=⟨gb448,1,none⟩) (by first|(rw [add_block];exact hn449_1)|(show (Addr.add _ _).block≠_;rw [add_block];exact hn449_1)|exact hn449_1) (.slice A0_1 l0_1.length c0_1)).trans hx449_4
   clear hn449_0
   clear hn449_1
   replace p449:=eq_true p449
   replace q449:=eq_true q449
   try go_wp2_with (first|((with_reducible refine gate_builtin (b:=.append) (xs:=#[.const (.slice none 0 0),.tmp 87]) rfl ?_);(try (refine gate_guard (by rfl) ?_;dsimp only));at_builtin;refine Kd.R_append_rows k36 (w0:=w) w.heap.size rfl (.const (.slice none 0 0)) (.tmp 87) 30 36 (.agg #[(.string ⟨#[]⟩),(.string ⟨#[]⟩),(.bool false),(.int .i64 0),(.string ⟨#[]⟩),(.int .i64 0),(.int .i64 0)]) 80 rfl Tryz.underlying30 info36 rfl (by decide) (by omega) (.slice none 0 0) ([]:List (S36)) ((rd_T34 l0_0 a1).f1) _ _ _ (fun _=>True) (fun _=>False) rfl rfl ?aO ?aR (fun _ _ h=>h) (fun _ h=>h.elim) ?aF ?aB ?aS ?aL ?_;(case aR=>exact Kd.C_below HR449_1.out (by repeat (with_reducible first|exact HB.out|apply Y3|apply Y1|apply Y2|refine Y4 ?_ GE431.out|refine Y4 ?_ GE444.out|refine Y4 ?_ GE448.out)));(case aB=>exact (by repeat (with_reducible first|exact HB.out|apply Y3|apply Y1|apply Y2|refine Y4 ?_ GE431.out|refine Y4 ?_ GE444.out|refine Y4 ?_ GE448.out)));(case aF=>exact (fun _ _=>trivial));(case aO=>exact ((Kd.R_nil _ _ _ _ (fun _=>True))));(case aS=>exact (below_size (by repeat (with_reducible first|exact HB.out|apply Y3|apply Y1|apply Y2|refine Y4 ?_ GE431.out|refine Y4 ?_ GE444.out|refine Y4 ?_ GE448.out))));(case aL=>have:=LMc31.out;omega);intro v451 w61 ho hb hg hat;rw [← Ny450.out] at ho;have n0_:=Y0 (blk_grown (g:=gb431) (o:=.cells #[.slice (some ad449) l0_0.length c0_0,.slice A0_1 l0_1.length c0_1] 26 (0,0)) (by (with_reducible repeat first|apply Y11|apply Y13|apply Y12);refine blk_far ?_ NB431_448.out _;(with_reducible repeat first|apply Y11|apply Y13|apply Y12);refine blk_far ?_ NB431_448.out _;(with_reducible repeat first|apply Y11|apply Y13|apply Y12);exact BK431.out) hg (by simp [Value.ownBlock]));have n1_:=Y0 (Kd.R_grown (by (with_reducible repeat (first|apply Y5|apply Y6|apply Y7));exact (Kd.R_mono (Kd.R_far (p:=⟨gb448,1,none⟩) (Kd.R_far (p:=⟨gb448,0,none⟩) (Kd.R_types HO438.out BK448.out (by first|decide|(simp only [msX_E,msY_E];decide))) (fun _ hk=>hk.2) (.slice Ao56 y445.length co56)) (fun _ hk=>hk.2) (.slice A0_1 l0_1.length c0_1)) (fun _ h_=>h_.1))) hg (fun _ _=>by simp [Value.ownBlock]));have n2_:=Y0 (Kd.R_grown (by (with_reducible repeat (first|apply Y5|apply Y6|apply Y7));exact (Kd.R_mono (Kd.R_far (p:=⟨gb448,1,none⟩) (Kd.R_far (p:=⟨gb448,0,none⟩) (Kd.R_types HO441.out BK448.out (by first|decide|(simp only [msX_E,msY_E];decide))) (fun _ hk=>hk.2) (.slice Ao56 y445.length co56)) (fun _ hk=>hk.2) (.slice A0_1 l0_1.length c0_1)) (fun _ h_=>h_.1))) hg (fun _ _=>by simp [Value.ownBlock]));have n3_:=Y0 (blk_grown (g:=gb444) (o:=.cells #[.slice Ao46 t436.length co46,.slice Ao49 t439.length co49] 46 (0,0)) (by (with_reducible repeat first|apply Y11|apply Y13|apply Y12);refine blk_far ?_ NB444_448.out _;(with_reducible repeat first|apply Y11|apply Y13|apply Y12);refine blk_far ?_ NB444_448.out _;(with_reducible repeat first|apply Y11|apply Y13|apply Y12);exact BK444.out) hg (by simp [Value.ownBlock]));have n4_:=Y0 (Kd.R_after (Kd.R_apart_nil (by (with_reducible repeat (first|apply Y5|apply Y6|apply Y7));exact (Kd.R_mono (Kd.R_far (p:=⟨gb448,1,none⟩) (Kd.R_far (p:=⟨gb448,0,none⟩) (Kd.R_types HO447.out BK448.out (by first|decide|(simp only [msX_E,msY_E];decide))) (fun _ hk=>hk.2) (.slice Ao56 y445.length co56)) (fun _ hk=>hk.2) (.slice A0_1 l0_1.length c0_1)) (fun _ h_=>h_.1)))) hg hat);have n5_:=Y0 (blk_grown (g:=gb448) (o:=.cells #[.slice Ao56 y445.length co56,.slice A0_1 l0_1.length c0_1] 26 (0,0)) (by (with_reducible repeat first|apply Y11|apply Y13|apply Y12);refine blk_put (cs:=#[.slice Ao56 y445.length co56,.slice none 0 0]) ?_ 1 _ rfl;(with_reducible repeat first|apply Y11|apply Y13|apply Y12);refine blk_put (cs:=#[.slice none 0 0,.slice none 0 0]) ?_ 0 _ rfl;(with_reducible repeat first|apply Y11|apply Y13|apply Y12);exact BK448.out) hg (by simp [Value.ownBlock]));have n6_:=Y0 (hb);have n7_:=Y0 (ho);clear BK431;clear HO438;clear HO441;clear BK444;clear HO447;clear BK448;clear HB;have BK431:=n0_;have HO438:=n1_;have HO441:=n2_;have BK444:=n3_;have HO447:=n4_;have BK448:=n5_;have HB:=n6_;have HO452:=n7_;clear n0_ n1_ n2_ n3_ n4_ n5_ n6_ n7_;clear ho hb hg hat))
   have n0_:=Y0 (Kd.R_drew HO438.out)
   have n1_:=Y0 (Kd.R_drew HO441.out)
   have n2_:=Y0 (Kd.R_drew HO447.out)
   have n3_:=Y0 (Kd.R_drew HO452.out)
   have n4_:=Y0 (blk_drew BK431.out)
   have n5_:=Y0 (blk_drew BK444.out)
   have n6_:=Y0 (blk_drew BK448.out)
   have n7_:=Y0 (below_drew1 HB.out)
   clear HO438
   clear HO441
   clear HO447
   clear HO452
   clear BK431
   clear BK444
   clear BK448
   clear HB
   have HO438:=n0_
   have HO441:=n1_
   have HO447:=n2_
   have HO452:=n3_
   have BK431:=n4_
   have BK444:=n5_
   have BK448:=n6_
   have HB:=n7_
   clear n0_ n1_ n2_ n3_ n4_ n5_ n6_ n7_
   obtain ⟨Ao63,co63,eo63⟩:=Kd.R_slice HO452.out
   (first|subst eo63|(injection eo63 with f1_ f2_ f3_;have f4_:=f1_.symm;have f5_:=f3_.symm;clear f1_ f2_ f3_;subst f4_;subst f5_))
   have p453:0≤(a3:Int):=of_decide_eq_true (by first|(with_reducible assumption)|assumption)
   have q453:a3 < (y450.length:Int):=of_decide_eq_true (by first|(with_reducible assumption)|assumption)
   obtain ⟨ad453,e453,hx453_0,hx453_1,hx453_2,hx453_3,hx453_4,hx453_5,hx453_6⟩:=at_T36 (Kd.R_reads' HO452.out).2.2 a3 p453 q453
   cases e453
   replace p453:=eq_true p453
   replace q453:=eq_true q453
   have p454:0≤(a2:Int):=of_decide_eq_true (by first|(with_reducible assumption)|assumption)
   have q454:a2 < (y450.length:Int):=of_decide_eq_true (by first|(with_reducible assumption)|assumption)
   obtain ⟨ad454,e454,hx454_0,hx454_1,hx454_2,hx454_3,hx454_4,hx454_5,hx454_6⟩:=at_T36 (Kd.R_reads' HO452.out).2.2 a2 p454 q454
   obtain rfl:ad453=ad454:=(by injection e454)
   replace p454:=eq_true p454
   replace q454:=eq_true q454
   have p36:0≤(a2:Int):=of_decide_eq_true (by first|(with_reducible assumption)|assumption)
   have q36:(a2:Int) < ((y450.length:Int):Int):=of_decide_eq_true (by first|(with_reducible assumption)|assumption)
   obtain ⟨go36,co36,eo36,gb36,gl36,cl36,HG36⟩:=Kd.R_form HO452.out (by omega)
   (first|cases eo36|(injection eo36 with ea_ en_ ec_;(first|subst ea_|(injection ea_ with ea_;subst ea_));subst ec_;clear en_))
   have GB36:=Y0 gb36
   have GG36:=Y0 HG36
   clear gb36 gl36 HG36
   (first|simp only [add_plain] at hx453_0|skip)
   (first|simp only [add_plain] at hx453_1|skip)
   (first|simp only [add_plain] at hx453_2|skip)
   (first|simp only [add_plain] at hx453_3|skip)
   (first|simp only [add_plain] at hx453_4|skip)
   (first|simp only [add_plain] at hx453_5|skip)
   (first|simp only [add_plain] at hx453_6|skip)
   (first|simp only [add_plain] at hx454_0|skip)
   (first|simp only [add_plain] at hx454_1|skip)
   (first|simp only [add_plain] at hx454_2|skip)
   (first|simp only [add_plain] at hx454_3|skip)
   (first|simp only [add_plain] at hx454_4|skip)
   (first|simp only [add_plain] at hx454_5|skip)
   (first|simp only [add_plain] at hx454_6|skip)
   obtain ⟨ce36,hcl36,hM36,hcc36,hfr36⟩:=Kd.R_elem HO452.out z36 (a2:Int) p36 q36
   obtain rfl:=k36_openM hM36
   have hx36_0:World.cell? _ ⟨go36,(a2:Int).toNat * 7,none⟩=some (.string ((rd_T36 y450 a2).f0)):=hcc36 0 _ rfl
   have hx36_1:World.cell? _ ⟨go36,(a2:Int).toNat * 7 + 1,none⟩=some (.string ((rd_T36 y450 a2).f1)):=hcc36 1 _ rfl
   have hx36_2:World.cell? _ ⟨go36,(a2:Int).toNat * 7 + 2,none⟩=some (.bool ((rd_T36 y450 a2).f2)):=hcc36 2 _ rfl
   have hx36_3:World.cell? _ ⟨go36,(a2:Int).toNat * 7 + 3,none⟩=some (.int .i64 ((rd_T36 y450 a2).f3)):=hcc36 3 _ rfl
   have hx36_4:World.cell? _ ⟨go36,(a2:Int).toNat * 7 + 4,none⟩=some (.string ((rd_T36 y450 a2).f4)):=hcc36 4 _ rfl
   have hx36_5:World.cell? _ ⟨go36,(a2:Int).toNat * 7 + 5,none⟩=some (.int .i64 ((rd_T36 y450 a2).f5)):=hcc36 5 _ rfl
   have hx36_6:World.cell? _ ⟨go36,(a2:Int).toNat * 7 + 6,none⟩=some (.int .i64 ((rd_T36 y450 a2).f6)):=hcc36 6 _ rfl
   have hf36_0:World.frozen? _ ⟨go36,(a2:Int).toNat * 7,none⟩=false:=hfr36 0
   have hf36_1:World.frozen? _ ⟨go36,(a2:Int).toNat * 7 + 1,none⟩=false:=hfr36 1
   have hf36_2:World.frozen? _ ⟨go36,(a2:Int).toNat * 7 + 2,none⟩=false:=hfr36 2
   have hf36_3:World.frozen? _ ⟨go36,(a2:Int).toNat * 7 + 3,none⟩=false:=hfr36 3
   have hf36_4:World.frozen? _ ⟨go36,(a2:Int).toNat * 7 + 4,none⟩=false:=hfr36 4
   have hf36_5:World.frozen? _ ⟨go36,(a2:Int).toNat * 7 + 5,none⟩=false:=hfr36 5
   have hf36_6:World.frozen? _ ⟨go36,(a2:Int).toNat * 7 + 6,none⟩=false:=hfr36 6
   clear hcl36 hcc36 hfr36 hM36
   replace p36:=eq_true p36
   replace q36:=eq_true q36
   obtain ⟨ce64,hcl64,hM64,hcc64,hfr64⟩:=Kd.R_elem HO452.out z36 (a2:Int) (of_decide_eq_true (by first|(with_reducible assumption)|assumption)) (by have h_:(a2:Int) < ((y450.length:Int):Int):=of_decide_eq_true (by first|(with_reducible assumption)|assumption);first|exact h_|(have e_:=(Kd.R_reads' HO452.out).1;omega)|simpa using h_)
   obtain rfl:=k36_openM hM64
   have HP64:=(Kd.R_seg HO452.out (a2:Int) (of_decide_eq_true (by first|(with_reducible assumption)|assumption)) (by have h_:(a2:Int) < ((y450.length:Int):Int):=of_decide_eq_true (by first|(with_reducible assumption)|assumption);first|exact h_|(have e_:=(Kd.R_reads' HO452.out).1;omega)|simpa using h_) (seg:=[.string ((rd_T36 y450 a3).f0),.string ((rd_T36 y450 a3).f1),.bool ((rd_T36 y450 a3).f2),.int .i64 ((rd_T36 y450 a3).f3),.string ((rd_T36 y450 a3).f4),.int .i64 ((rd_T36 y450 a3).f5),.int .i64 ((rd_T36 y450 a3).f6)]) (j:=0) hcl64 hcc64 (show 7≤7 from by decide) (x':=(⟨(rd_T36 y450 a3).f0,(rd_T36 y450 a3).f1,(rd_T36 y450 a3).f2,(rd_T36 y450 a3).f3,(rd_T36 y450 a3).f4,(rd_T36 y450 a3).f5,(rd_T36 y450 a3).f6⟩:S36)) (k36_mkM _ _ _ (⟨(rd_T36 y450 a3).f0,(rd_T36 y450 a3).f1,(rd_T36 y450 a3).f2,(rd_T36 y450 a3).f3,(rd_T36 y450 a3).f4,(rd_T36 y450 a3).f5,(rd_T36 y450 a3).f6⟩:S36) ) (fun _ hk=>hk)).1
   have HGa_:=Y0 ((Kd.R_seg HO452.out (a2:Int) (of_decide_eq_true (by first|(with_reducible assumption)|assumption)) (by have h_:(a2:Int) < ((y450.length:Int):Int):=of_decide_eq_true (by first|(with_reducible assumption)|assumption);first|exact h_|(have e_:=(Kd.R_reads' HO452.out).1;omega)|simpa using h_) (seg:=[.string ((rd_T36 y450 a3).f0),.string ((rd_T36 y450 a3).f1),.bool ((rd_T36 y450 a3).f2),.int .i64 ((rd_T36 y450 a3).f3),.string ((rd_T36 y450 a3).f4),.int .i64 ((rd_T36 y450 a3).f5),.int .i64 ((rd_T36 y450 a3).f6)]) (j:=0) hcl64 hcc64 (show 7≤7 from by decide) (x':=(⟨(rd_T36 y450 a3).f0,(rd_T36 y450 a3).f1,(rd_T36 y450 a3).f2,(rd_T36 y450 a3).f3,(rd_T36 y450 a3).f4,(rd_T36 y450 a3).f5,(rd_T36 y450 a3).f6⟩:S36)) (k36_mkM _ _ _ (⟨(rd_T36 y450 a3).f0,(rd_T36 y450 a3).f1,(rd_T36 y450 a3).f2,(rd_T36 y450 a3).f3,(rd_T36 y450 a3).f4,(rd_T36 y450 a3).f5,(rd_T36 y450 a3).f6⟩:S36) ) (fun _ hk=>hk)).2)
   rw [← Ny455.out] at HP64
   have HQ64:=Y0 HP64
   clear hcl64 hcc64 hfr64 hM64 HP64
   have p37:0≤(a3:Int):=of_decide_eq_true (by first|(with_reducible assumption)|assumption)
   have q37:(a3:Int) < ((y450.length:Int):Int):=of_decide_eq_true (by first|(with_reducible assumption)|assumption)
   obtain ⟨ce37,hcl37,hM37,hcc37,hfr37⟩:=Kd.R_elem HQ64.out z36 (a3:Int) p37 q37
   obtain rfl:=k36_openM hM37
   have hx37_0:World.cell? _ ⟨go36,(a3:Int).toNat * 7,none⟩=some (.string ((rd_T36 y455 a3).f0)):=hcc37 0 _ rfl
   have hx37_1:World.cell? _ ⟨go36,(a3:Int).toNat * 7 + 1,none⟩=some (.string ((rd_T36 y455 a3).f1)):=hcc37 1 _ rfl
   have hx37_2:World.cell? _ ⟨go36,(a3:Int).toNat * 7 + 2,none⟩=some (.bool ((rd_T36 y455 a3).f2)):=hcc37 2 _ rfl
   have hx37_3:World.cell? _ ⟨go36,(a3:Int).toNat * 7 + 3,none⟩=some (.int .i64 ((rd_T36 y455 a3).f3)):=hcc37 3 _ rfl
   have hx37_4:World.cell? _ ⟨go36,(a3:Int).toNat * 7 + 4,none⟩=some (.string ((rd_T36 y455 a3).f4)):=hcc37 4 _ rfl
   have hx37_5:World.cell? _ ⟨go36,(a3:Int).toNat * 7 + 5,none⟩=some (.int .i64 ((rd_T36 y455 a3).f5)):=hcc37 5 _ rfl
   have hx37_6:World.cell? _ ⟨go36,(a3:Int).toNat * 7 + 6,none⟩=some (.int .i64 ((rd_T36 y455 a3).f6)):=hcc37 6 _ rfl
   have hf37_0:World.frozen? _ ⟨go36,(a3:Int).toNat * 7,none⟩=false:=hfr37 0
   have hf37_1:World.frozen? _ ⟨go36,(a3:Int).toNat * 7 + 1,none⟩=false:=hfr37 1
   have hf37_2:World.frozen? _ ⟨go36,(a3:Int).toNat * 7 + 2,none⟩=false:=hfr37 2
   have hf37_3:World.frozen? _ ⟨go36,(a3:Int).toNat * 7 + 3,none⟩=false:=hfr37 3
   have hf37_4:World.frozen? _ ⟨go36,(a3:Int).toNat * 7 + 4,none⟩=false:=hfr37 4
   have hf37_5:World.frozen? _ ⟨go36,(a3:Int).toNat * 7 + 5,none⟩=false:=hfr37 5
   have hf37_6:World.frozen? _ ⟨go36,(a3:Int).toNat * 7 + 6,none⟩=false:=hfr37 6
   clear hcl37 hcc37 hfr37 hM37
   replace p37:=eq_true p37
   replace q37:=eq_true q37
   obtain ⟨ce65,hcl65,hM65,hcc65,hfr65⟩:=Kd.R_elem HQ64.out z36 (a3:Int) (of_decide_eq_true (by first|(with_reducible assumption)|assumption)) (by have h_:(a3:Int) < ((y450.length:Int):Int):=of_decide_eq_true (by first|(with_reducible assumption)|assumption);first|exact h_|(have e_:=(Kd.R_reads' HO452.out).1;omega)|simpa using h_)
   obtain rfl:=k36_openM hM65
   have HP65:=(Kd.R_seg HQ64.out (a3:Int) (of_decide_eq_true (by first|(with_reducible assumption)|assumption)) (by have h_:(a3:Int) < ((y450.length:Int):Int):=of_decide_eq_true (by first|(with_reducible assumption)|assumption);first|exact h_|(have e_:=(Kd.R_reads' HO452.out).1;omega)|simpa using h_) (seg:=[.string ((rd_T36 y450 a2).f0),.string ((rd_T36 y450 a2).f1),.bool ((rd_T36 y450 a2).f2),.int .i64 ((rd_T36 y450 a2).f3),.string ((rd_T36 y450 a2).f4),.int .i64 ((rd_T36 y450 a2).f5),.int .i64 ((rd_T36 y450 a2).f6)]) (j:=0) hcl65 hcc65 (show 7≤7 from by decide) (x':=(⟨(rd_T36 y450 a2).f0,(rd_T36 y450 a2).f1,(rd_T36 y450 a2).f2,(rd_T36 y450 a2).f3,(rd_T36 y450 a2).f4,(rd_T36 y450 a2).f5,(rd_T36 y450 a2).f6⟩:S36)) (k36_mkM _ _ _ (⟨(rd_T36 y450 a2).f0,(rd_T36 y450 a2).f1,(rd_T36 y450 a2).f2,(rd_T36 y450 a2).f3,(rd_T36 y450 a2).f4,(rd_T36 y450 a2).f5,(rd_T36 y450 a2).f6⟩:S36) ) (fun _ hk=>hk)).1
   have HGb_:=Y0 ((Kd.R_seg HQ64.out (a3:Int) (of_decide_eq_true (by first|(with_reducible assumption)|assumption)) (by have h_:(a3:Int) < ((y450.length:Int):Int):=of_decide_eq_true (by first|(with_reducible assumption)|assumption);first|exact h_|(have e_:=(Kd.R_reads' HO452.out).1;omega)|simpa using h_) (seg:=[.string ((rd_T36 y450 a2).f0),.string ((rd_T36 y450 a2).f1),.bool ((rd_T36 y450 a2).f2),.int .i64 ((rd_T36 y450 a2).f3),.string ((rd_T36 y450 a2).f4),.int .i64 ((rd_T36 y450 a2).f5),.int .i64 ((rd_T36 y450 a2).f6)]) (j:=0) hcl65 hcc65 (show 7≤7 from by decide) (x':=(⟨(rd_T36 y450 a2).f0,(rd_T36 y450 a2).f1,(rd_T36 y450 a2).f2,(rd_T36 y450 a2).f3,(rd_T36 y450 a2).f4,(rd_T36 y450 a2).f5,(rd_T36 y450 a2).f6⟩:S36)) (k36_mkM _ _ _ (⟨(rd_T36 y450 a2).f0,(rd_T36 y450 a2).f1,(rd_T36 y450 a2).f2,(rd_T36 y450 a2).f3,(rd_T36 y450 a2).f4,(rd_T36 y450 a2).f5,(rd_T36 y450 a2).f6⟩:S36) ) (fun _ hk=>hk)).2)
   rw [← Ny456.out] at HP65
   have HQ65:=Y0 HP65
   clear hcl65 hcc65 hfr65 hM65 HP65
   refine start_ (n:=16) (S:=fun w'=>w'.cell? ⟨go36,((a3).toNat * 7),none⟩=some (.string ((rd_T36 y450 a3).f0))∧w'.cell? ⟨go36,((a3).toNat * 7) + 1,none⟩=some (.string ((rd_T36 y450 a3).f1))∧w'.cell? ⟨go36,((a3).toNat * 7) + 2,none⟩=some (.bool ((rd_T36 y450 a3).f2))∧w'.cell? ⟨go36,((a3).toNat * 7) + 3,none⟩=some (.int .i64 ((rd_T36 y450 a3).f3))∧w'.cell? ⟨go36,((a3).toNat * 7) + 4,none⟩=some (.string ((rd_T36 y450 a3).f4))∧w'.cell? ⟨go36,((a3).toNat * 7) + 5,none⟩=some (.int .i64 ((rd_T36 y450 a3).f5))∧w'.cell? ⟨go36,((a3).toNat * 7) + 6,none⟩=some (.int .i64 ((rd_T36 y450 a3).f6))∧w'.cell? ⟨go36,((a2).toNat * 7),none⟩=some (.string ((rd_T36 y450 a2).f0))∧w'.cell? ⟨go36,((a2).toNat * 7) + 1,none⟩=some (.string ((rd_T36 y450 a2).f1))∧w'.cell? ⟨go36,((a2).toNat * 7) + 2,none⟩=some (.bool ((rd_T36 y450 a2).f2))∧w'.cell? ⟨go36,((a2).toNat * 7) + 3,none⟩=some (.int .i64 ((rd_T36 y450 a2).f3))∧w'.cell? ⟨go36,((a2).toNat * 7) + 4,none⟩=some (.string ((rd_T36 y450 a2).f4))∧w'.cell? ⟨go36,((a2).toNat * 7) + 5,none⟩=some (.int .i64 ((rd_T36 y450 a2).f5))∧w'.cell? ⟨go36,((a2).toNat * 7) + 6,none⟩=some (.int .i64 ((rd_T36 y450 a2).f6))) (ds:=[13,15]) #[false,false,false,false,false,false,false,false,false,false,false,false,false,false,false,false] (by kernel_rfl) rfl rfl ⟨hx453_0,hx453_1,hx453_2,hx453_3,hx453_4,hx453_5,hx453_6,hx454_0,hx454_1,hx454_2,hx454_3,hx454_4,hx454_5,hx454_6⟩ (fun hHeld=>?_);refine with_tabW trufflelaw08_TableOrder.tab8 trufflelaw08_TableOrder.bits8 (fun HT_ HW_=>?_)
   generalize w61.drew=w62 at HO438 HO441 HO447 HO452 BK431 BK444 BK448 HB GG36 HQ64 HQ65 hf36_0 hf36_1 hf36_2 hf36_3 hf36_4 hf36_5 hf36_6 hf37_0 hf37_1 hf37_2 hf37_3 hf37_4 hf37_5 hf37_6 hx36_0 hx36_1 hx36_2 hx36_3 hx36_4 hx36_5 hx36_6 hx37_0 hx37_1 hx37_2 hx37_3 hx37_4 hx37_5 hx37_6 hx453_0 hx453_1 hx453_2 hx453_3 hx453_4 hx453_5 hx453_6 hx454_0 hx454_1 hx454_2 hx454_3 hx454_4 hx454_5 hx454_6 hHeld HGa_ HGb_ ⊢
   obtain ⟨wa_,hwa_⟩:∃ x,w62.setCells go36 ((a2:Int).toNat * k36.sz + 0) [.string ((rd_T36 y450 a3).f0),.string ((rd_T36 y450 a3).f1),.bool ((rd_T36 y450 a3).f2),.int .i64 ((rd_T36 y450 a3).f3),.string ((rd_T36 y450 a3).f4),.int .i64 ((rd_T36 y450 a3).f5),.int .i64 ((rd_T36 y450 a3).f6)]=x:=⟨_,rfl⟩
   simp only [hwa_] at HQ64 HQ65 HGa_ HGb_ hf37_0 hf37_1 hf37_2 hf37_3 hf37_4 hf37_5 hf37_6 hx37_0 hx37_1 hx37_2 hx37_3 hx37_4 hx37_5 hx37_6
   obtain ⟨w66,hwb_⟩:∃ x,wa_.setCells go36 ((a3:Int).toNat * k36.sz + 0) [.string ((rd_T36 y450 a2).f0),.string ((rd_T36 y450 a2).f1),.bool ((rd_T36 y450 a2).f2),.int .i64 ((rd_T36 y450 a2).f3),.string ((rd_T36 y450 a2).f4),.int .i64 ((rd_T36 y450 a2).f5),.int .i64 ((rd_T36 y450 a2).f6)]=x:=⟨_,rfl⟩
   simp only [hwb_] at HQ65 HGb_
   refine pure_ (i:=0) (N:=some 89) (v:=?_) (a':=?_) (sqB 16 1) rfl rfl (any_of HT_.out (by kernel_rfl)) (fun _ _ _ h=>h) (Or.inl ⟨by rfl,?_⟩) ?_ ?_;rotate_left;intro w';go_simp;with_reducible rfl;rotate_left;simp only [Act.put,Y14,Y15,Y16];rfl
   refine pure_ (i:=1) (N:=some 90) (v:=?_) (a':=?_) (sqB 16 3) rfl rfl (any_of HT_.out (by kernel_rfl)) (fun _ _ _ h=>h) (Or.inl ⟨by rfl,?_⟩) ?_ ?_;rotate_left;intro w';go_simp;with_reducible rfl;rotate_left;simp only [Act.put,Y14,Y15,Y16];rfl
   refine pure_ (i:=2) (N:=some 91) (v:=?_) (a':=?_) (sqB 16 7) rfl rfl (any_of HT_.out (by kernel_rfl)) (fun _ _ _ h=>h) (Or.inl ⟨by rfl,?_⟩) ?_ ?_;rotate_left;intro w';go_simp;with_reducible rfl;rotate_left;simp only [Act.put,Y14,Y15,Y16];rfl
   refine pure_ (i:=3) (N:=some 92) (v:=?_) (a':=?_) (sqB 16 15) rfl rfl (any_of HT_.out (by kernel_rfl)) (fun _ _ _ h=>h) (Or.inl ⟨by rfl,?_⟩) ?_ ?_;rotate_left;intro w';go_simp;with_reducible rfl;rotate_left;simp only [Act.put,Y14,Y15,Y16];rfl
   refine pure_ (i:=4) (N:=some 93) (v:=?_) (a':=?_) (sqB 16 31) rfl rfl (any_of HT_.out (by kernel_rfl)) (fun _ _ _ h=>h) (Or.inl ⟨by rfl,?_⟩) ?_ ?_;rotate_left;intro w';go_simp;with_reducible rfl;rotate_left;simp only [Act.put,Y14,Y15,Y16];rfl
   refine pure_ (i:=5) (N:=some 94) (v:=?_) (a':=?_) (sqB 16 63) rfl rfl (any_of HT_.out (by kernel_rfl)) (fun _ _ _ h=>h) (Or.inl ⟨by rfl,?_⟩) ?_ ?_;rotate_left;intro w';go_simp;with_reducible rfl;rotate_left;simp only [Act.put,Y14,Y15,Y16];rfl
   refine pure_ (i:=6) (N:=some 95) (v:=?_) (a':=?_) (sqB 16 127) rfl rfl (any_of HT_.out (by kernel_rfl)) (fun _ _ _ h=>h) (Or.inl ⟨by rfl,?_⟩) ?_ ?_;rotate_left;intro w';go_simp;with_reducible rfl;rotate_left;simp only [Act.put,Y14,Y15,Y16];rfl
   refine pure_ (i:=8) (N:=some 97) (v:=?_) (a':=?_) (sqB 16 383) rfl rfl (any_of HT_.out (by kernel_rfl)) (fun _ _ _ h=>h) (Or.inl ⟨by rfl,?_⟩) ?_ ?_;rotate_left;intro w';go_simp;with_reducible rfl;rotate_left;simp only [Act.put,Y14,Y15,Y16];rfl
   refine pure_ (i:=9) (N:=some 98) (v:=?_) (a':=?_) (sqB 16 895) rfl rfl (any_of HT_.out (by kernel_rfl)) (fun _ _ _ h=>h) (Or.inl ⟨by rfl,?_⟩) ?_ ?_;rotate_left;intro w';go_simp;with_reducible rfl;rotate_left;simp only [Act.put,Y14,Y15,Y16];rfl
   refine pure_ (i:=10) (N:=some 99) (v:=?_) (a':=?_) (sqB 16 1919) rfl rfl (any_of HT_.out (by kernel_rfl)) (fun _ _ _ h=>h) (Or.inl ⟨by rfl,?_⟩) ?_ ?_;rotate_left;intro w';go_simp;with_reducible rfl;rotate_left;simp only [Act.put,Y14,Y15,Y16];rfl
   refine take_ (i:=7) (N:=some 96) (v:=?_) (a':=?_) (sqB 16 2047) rfl rfl (take_ofW HT_.out HW_.out (by kernel_rfl)) (fun _ _ _ h=>h) (Or.inl ⟨by rfl,?_⟩) hHeld ?_ ?_;rotate_left;rintro w' ⟨s0,s1,s2,s3,s4,s5,s6,s7,s8,s9,s10,s11,s12,s13⟩;go_simp;with_reducible rfl;rotate_left;simp only [Act.put,Y14,Y15,Y16];rfl
   refine take_ (i:=11) (N:=some 100) (v:=?_) (a':=?_) (sqB 16 4095) rfl rfl (take_ofW HT_.out HW_.out (by kernel_rfl)) (fun _ _ _ h=>h) (Or.inl ⟨by rfl,?_⟩) hHeld ?_ ?_;rotate_left;rintro w' ⟨s0,s1,s2,s3,s4,s5,s6,s7,s8,s9,s10,s11,s12,s13⟩;go_simp;with_reducible rfl;rotate_left;simp only [Act.put,Y14,Y15,Y16];rfl
   refine pure_ (i:=12) (N:=some 101) (v:=?_) (a':=?_) (sqB 16 8191) rfl rfl (any_of HT_.out (by kernel_rfl)) (fun _ _ _ h=>h) (Or.inl ⟨by rfl,?_⟩) ?_ ?_;rotate_left;intro w';go_simp;with_reducible rfl;rotate_left;simp only [Act.put,Y14,Y15,Y16];rfl
   refine last_ (i:=13) (N:=none) (sqB 16 16383) rfl rfl (one_of HT_.out (by kernel_rfl)) (by decide) (fun K hK=>?_)
   refine skip_ (w1:=wa_) (by rfl) rfl ?_ ?_
   ·rw [← hwa_];go_simp
    rfl
   refine hK.out _ _ ?_
   clear hK K
   refine pure_ (i:=14) (N:=some 102) (v:=?_) (a':=?_) (sqB 16 32767) rfl rfl (any_of HT_.out (by kernel_rfl)) (fun _ _ _ h=>h) (Or.inl ⟨by rfl,?_⟩) ?_ ?_;rotate_left;intro w';go_simp;with_reducible rfl;rotate_left;simp only [Act.put,Y14,Y15,Y16];rfl
   refine last_ (i:=15) (N:=none) (sqB 16 65535) rfl rfl (one_of HT_.out (by kernel_rfl)) (by decide) (fun K hK=>?_)
   refine skip_ (w1:=w66) (by rfl) rfl ?_ ?_
   ·rw [← hwb_];go_simp
    rfl
   refine hK.out _ _ ?_
   clear hK K
   refine done_ (done_of HT_.out (by kernel_rfl)) ?_
   have n0_:=Y0 (Kd.R_over' (v:=(.slice (some ⟨go36,0,none⟩) y450.length co63)) (Kd.R_over' (v:=(.slice (some ⟨go36,0,none⟩) y450.length co63)) HO438.out (Kd.R_typed HO452.out) (by decide) HGa_.out) (Kd.R_typed HQ64.out) (by decide) HGb_.out)
   have n1_:=Y0 (Kd.R_over' (v:=(.slice (some ⟨go36,0,none⟩) y450.length co63)) (Kd.R_over' (v:=(.slice (some ⟨go36,0,none⟩) y450.length co63)) HO441.out (Kd.R_typed HO452.out) (by decide) HGa_.out) (Kd.R_typed HQ64.out) (by decide) HGb_.out)
   have n2_:=Y0 (Kd.R_mono (Kd.R_grown (Kd.R_grown HO447.out HGa_.out (fun _ hk=>hk.2)) HGb_.out (fun _ hk=>hk.2)) (fun _ hk=>hk.2))
   have n3_:=Y0 HQ65.out
   have n_:=blk_grown (g:=gb431) BK431.out HGa_.out (Kd.R_ne HO452.out BK431.out (by decide))
   have n4_:=Y0 (blk_grown (g:=gb431) n_ HGb_.out (Kd.R_ne HQ64.out n_ (by decide)))
   clear n_
   have n_:=blk_grown (g:=gb444) BK444.out HGa_.out (Kd.R_ne HO452.out BK444.out (by decide))
   have n5_:=Y0 (blk_grown (g:=gb444) n_ HGb_.out (Kd.R_ne HQ64.out n_ (by decide)))
   clear n_
   have n_:=blk_grown (g:=gb448) BK448.out HGa_.out (Kd.R_ne HO452.out BK448.out (by decide))
   have n6_:=Y0 (blk_grown (g:=gb448) n_ HGb_.out (Kd.R_ne HQ64.out n_ (by decide)))
   clear n_
   have n7_:=Y0 ((HB.out.grown HGa_.out (below_size HB.out) (own_base (Kd.R_own HO452.out).choose_spec)).grown HGb_.out (below_size (HB.out.grown HGa_.out (below_size HB.out) (own_base (Kd.R_own HO452.out).choose_spec))) (own_base (Kd.R_own HQ64.out).choose_spec))
   (try clear HO438)
   (try clear HO441)
   (try clear HO447)
   (try clear HO452)
   (try clear BK431)
   (try clear BK444)
   (try clear BK448)
   (try clear HB)
   have HO438:=n0_
   have HO441:=n1_
   have HO447:=n2_
   have HO452:=n3_
   have BK431:=n4_
   have BK444:=n5_
   have BK448:=n6_
   have HB:=n7_
   clear n0_ n1_ n2_ n3_ n4_ n5_ n6_ n7_
   have hnb67:=NB448_444.out
   have hnc67:=NB444_448.out
   have ⟨hcz68_0,hcz68_1,hfz68_0,hfz68_1⟩:=sq_box2 BK448.out
   have p39:0≤(a1:Int):=of_decide_eq_true (by first|(with_reducible assumption)|assumption)
   have q39:(a1:Int) < ((y445.length:Int):Int):=of_decide_eq_true (by first|(with_reducible assumption)|assumption)
   obtain ⟨go39,co39,eo39,gb39,gl39,cl39,HG39⟩:=Kd.R_form HO447.out (by omega)
   (first|cases eo39|(injection eo39 with ea_ en_ ec_;(first|subst ea_|(injection ea_ with ea_;subst ea_));subst ec_;clear en_))
   have GB39:=Y0 gb39
   have GG39:=Y0 HG39
   clear gb39 gl39 HG39
   obtain ⟨ce39,hcl39,hM39,hcc39,hfr39⟩:=Kd.R_elem HO447.out z34 (a1:Int) p39 q39
   obtain ⟨ve39_1,ve39_2,ve39_3,rfl,ge39_1,ge39_2,ge39_3⟩:=msX_openM hM39
   have hx39_0:w66.cell? ⟨go39,(a1:Int).toNat * 5,none⟩=some (.string ((rd_T34 y445 a1).f0)):=hcc39 0 _ rfl
   have hx39_1:w66.cell? ⟨go39,(a1:Int).toNat * 5 + 1,none⟩=some (ve39_1):=hcc39 1 _ rfl
   have hx39_2:w66.cell? ⟨go39,(a1:Int).toNat * 5 + 2,none⟩=some (ve39_2):=hcc39 2 _ rfl
   have hx39_3:w66.cell? ⟨go39,(a1:Int).toNat * 5 + 3,none⟩=some (ve39_3):=hcc39 3 _ rfl
   have hx39_4:w66.cell? ⟨go39,(a1:Int).toNat * 5 + 4,none⟩=some (.int .i64 ((rd_T34 y445 a1).f4)):=hcc39 4 _ rfl
   have hf39_0:w66.frozen? ⟨go39,(a1:Int).toNat * 5,none⟩=false:=hfr39 0
   have hf39_1:w66.frozen? ⟨go39,(a1:Int).toNat * 5 + 1,none⟩=false:=hfr39 1
   have hf39_2:w66.frozen? ⟨go39,(a1:Int).toNat * 5 + 2,none⟩=false:=hfr39 2
   have hf39_3:w66.frozen? ⟨go39,(a1:Int).toNat * 5 + 3,none⟩=false:=hfr39 3
   have hf39_4:w66.frozen? ⟨go39,(a1:Int).toNat * 5 + 4,none⟩=false:=hfr39 4
   clear hcl39 hcc39 hfr39 hM39
   replace p39:=eq_true p39
   replace q39:=eq_true q39
   have HX69:=Y0 (show Kd.R (kMsX w) 34 w66 w.heap.size (fun k_=>((fun _=>True)) k_∧¬ ((fun k_=>some k_=(.slice (some ⟨go36,0,none⟩) y450.length co63:Value).ownBlock)) k_) (.slice (some ⟨go39,0,none⟩) y445.length co56) y445 from (by (with_reducible repeat (first|apply Y5|apply Y6|apply Y7));exact Kd.R_mono HO447.out (fun k_ hk=>⟨trivial,fun e_=>hk e_⟩)))
   obtain ⟨ce69,hcl69,hM69,hcc69,hfr69⟩:=Kd.R_elem HX69.out z34 (a1:Int) (of_decide_eq_true (by first|(with_reducible assumption)|assumption)) (by have h_:(a1:Int) < ((y445.length:Int):Int):=of_decide_eq_true (by first|(with_reducible assumption)|assumption);first|exact h_|(have e_:=(Kd.R_reads' HO447.out).1;omega)|simpa using h_)
   obtain ⟨ve69_1,ve69_2,ve69_3,rfl,ge69_1,ge69_2,ge69_3⟩:=msX_openM hM69
   have HP69:=Kd.R_seg (Kd.R_mono (ok':=fun _=>True) HX69.out (fun _ _=>trivial)) (a1:Int) (of_decide_eq_true (by first|(with_reducible assumption)|assumption)) (by have h_:(a1:Int) < ((y445.length:Int):Int):=of_decide_eq_true (by first|(with_reducible assumption)|assumption);first|exact h_|(have e_:=(Kd.R_reads' HO447.out).1;omega)|simpa using h_) (seg:=[.slice (some ⟨go36,0,none⟩) y450.length co63]) (j:=1) hcl69 hcc69 (show 2≤5 from by decide) (x':=(⟨(rd_T34 y445 a1).f0,y456,(rd_T34 y445 a1).f2,(rd_T34 y445 a1).f3,(rd_T34 y445 a1).f4⟩:S34)) (msX_mkM (Kd.mix_made (Kd.R_mono (ok':=fun k_=>((fun _=>True)) k_∧k_≠go39) (Kd.R_apart' (HO452.out) (Kd.R_typed HO447.out) (by decide)) (fun k_ hk=>⟨trivial,fun e_=>(hk.2) (by rw [e_];rfl)⟩))) (mix_mono ge69_2 (fun k_ hk=>⟨trivial,fun e_=>hk.2 (by rw [e_] <;> rfl)⟩)) (mix_mono ge69_3 (fun k_ hk=>⟨trivial,fun e_=>hk.2 (by rw [e_] <;> rfl)⟩))) (fun _ hk=>hk)
   have hx69_1:=hcc69 1 _ rfl
   (try simp only [show (kMsX w).sz=5 from rfl,Nat.mul_one,Nat.add_zero] at hx69_1)
   have hf69_1:=hfr69 1
   (try simp only [show (kMsX w).sz=5 from rfl,Nat.mul_one,Nat.add_zero] at hf69_1)
   clear hcl69 hcc69 hfr69 hM69
   try go_wp2_with (first|((with_reducible refine gate_store (t:=30) (p:=108) rfl ?_);refine store_event (t:=30) (p:=108) (v:=?vo_w70) (w1:=(w66.setCell ⟨go39,(a1:Int).toNat * 5 + 1,none⟩ (.slice (some ⟨go36,0,none⟩) y450.length co63))) ?hg ?ho ?hn ?hr ?_;(case ho=>rfl);(case hg=>rfl);(case hn=>rfl);(case hr=>first|(go_simp;done)|(go_simp;rfl));intro w70 hw;have hg:w66.grownBy w70 (some go39):=(by rw [hw];exact HP69.2);have hp_:Kd.R (kMsX w) 34 w70 w.heap.size (fun _=>True) (.slice (some ⟨go39,0,none⟩) y445.length co56) y457:=(by rw [hw,Ny457.out];exact HP69.1);clear HP69;have n0_:=Y0 (blk_grown (g:=gb431) (o:=.cells #[.slice (some ad449) l0_0.length c0_0,.slice A0_1 l0_1.length c0_1] 26 (0,0)) (by (with_reducible repeat first|apply Y11|apply Y13|apply Y12);exact BK431.out) hg (Kd.R_ne HO447.out BK431.out (by first|decide|(simp only [msX_E,msY_E];decide))));have n1_:=Y0 (Kd.R_over' (v:=(.slice (some ⟨go39,0,none⟩) y445.length co56)) (by (with_reducible repeat (first|apply Y5|apply Y6|apply Y7));exact HO438.out) (Kd.R_typed HO447.out) (by decide) hg);have n2_:=Y0 (Kd.R_over' (v:=(.slice (some ⟨go39,0,none⟩) y445.length co56)) (by (with_reducible repeat (first|apply Y5|apply Y6|apply Y7));exact HO441.out) (Kd.R_typed HO447.out) (by decide) hg);have n3_:=Y0 (blk_grown (g:=gb444) (o:=.cells #[.slice Ao46 t436.length co46,.slice Ao49 t439.length co49] 46 (0,0)) (by (with_reducible repeat first|apply Y11|apply Y13|apply Y12);exact BK444.out) hg (Kd.R_ne HO447.out BK444.out (by first|decide|(simp only [msX_E,msY_E];decide))));have n4_:=Y0 (hp_);have n5_:=Y0 (blk_grown (g:=gb448) (o:=.cells #[.slice (some ⟨go39,0,none⟩) y445.length co56,.slice A0_1 l0_1.length c0_1] 26 (0,0)) (by (with_reducible repeat first|apply Y11|apply Y13|apply Y12);exact BK448.out) hg (Kd.R_ne HO447.out BK448.out (by first|decide|(simp only [msX_E,msY_E];decide))));have n6_:=Y0 ((by rw [hw];exact below_set (HB.out) GB39.out:Below w.heap.size w w70));clear BK431;clear HO438;clear HO441;clear BK444;clear HO447;clear BK448;clear HB;clear HO452;have BK431:=n0_;have HO438:=n1_;have HO441:=n2_;have BK444:=n3_;have HO447:=n4_;have BK448:=n5_;have HB:=n6_;clear n0_ n1_ n2_ n3_ n4_ n5_ n6_;clear hg hw hp_;have ⟨hcz71_0,hcz71_1,hfz71_0,hfz71_1⟩:=sq_box2 BK448.out)|((with_reducible refine gate_callee (f:=18) rfl ?_);refine goesL_ (some 111) rfl rfl Tryz.func18 (by kernel_rfl) rfl #[.agg #[.slice (some ⟨go39,0,none⟩) y457.length co56,.slice A0_1 l0_1.length c0_1]] rfl (by (try simp only [List.map_toArray,List.map_cons,List.map_nil]);first|done|(rw [show y457.length=y445.length from (Kd.R_reads' HO447.out).1.symm] <;> rfl)|rfl|(simp only [List.length_drop,List.length_take];rfl)) ?_;(with_reducible refine (table_Resolve.calls _ _ y457 _ _ l0_1 t458 t461 t464 t465 _ ?side1 ?side2 ?side3 ?side4 A40.out).mono ?_);(case side1=>refine msX_C (w0:=w) ?_ (by repeat (with_reducible first|exact HB.out|apply Y3|apply Y1|apply Y2));repeat (first|exact (Kd.R_reads' HO447.out).2.2|(with_reducible refine Y8 ?_ _)|(with_reducible refine Kd.C_drewN ?_ _)|(with_reducible refine Kd.C_drew ?_)));(case side2=>rw [show y457.length=y445.length from (Kd.R_reads' HO447.out).1.symm];exact (Kd.R_reads' HO447.out).2.1);(case side3=>repeat (first|exact (Kd.C_below HR0_1.out HB.out)|(with_reducible refine Y8 ?_ _)|(with_reducible refine Kd.C_drewN ?_ _)|(with_reducible refine Kd.C_drew ?_)));(case side4=>exact HC0_1.out);rintro e w72 ⟨v459,v462,rfl,ho0,ho1,hb⟩;refine ⟨_,rfl,?_⟩;have n0_:=Y0 (Kd.R_elder' (by (with_reducible repeat (first|apply Y5|apply Y6|apply Y7));exact HO438.out) (Kd.R_base ho0) hb);have n1_:=Y0 (Kd.R_elder' (by (with_reducible repeat (first|apply Y5|apply Y6|apply Y7));exact HO441.out) (Kd.R_base ho1) hb);have n2_:=Y0 (Kd.R_below (by (with_reducible repeat (first|apply Y5|apply Y6|apply Y7));exact HO447.out) hb);have n3_:=Y0 (Kd.R_lower (Kd.R_new' ho0 (Kd.R_lt (by (with_reducible repeat (first|apply Y5|apply Y6|apply Y7));exact HO438.out))) (below_size (by repeat (with_reducible first|exact HB.out|apply Y3|apply Y1|apply Y2|refine Y4 ?_ GE431.out|refine Y4 ?_ GE444.out|refine Y4 ?_ GE448.out))));have n4_:=Y0 (Kd.R_lower (Kd.R_new' ho1 (Kd.R_lt (by (with_reducible repeat (first|apply Y5|apply Y6|apply Y7));exact HO441.out))) (below_size (by repeat (with_reducible first|exact HB.out|apply Y3|apply Y1|apply Y2|refine Y4 ?_ GE431.out|refine Y4 ?_ GE444.out|refine Y4 ?_ GE448.out))));have n5_:=Y0 (blk_below (g:=gb431) (o:=.cells #[.slice (some ad449) l0_0.length c0_0,.slice A0_1 l0_1.length c0_1] 26 (0,0)) (by (with_reducible repeat first|apply Y11|apply Y13|apply Y12);exact BK431.out) hb);have n6_:=Y0 (blk_below (g:=gb444) (o:=.cells #[.slice Ao46 t436.length co46,.slice Ao49 t439.length co49] 46 (0,0)) (by (with_reducible repeat first|apply Y11|apply Y13|apply Y12);exact BK444.out) hb);have n7_:=Y0 (blk_below (g:=gb448) (o:=.cells #[.slice (some ⟨go39,0,none⟩) y445.length co56,.slice A0_1 l0_1.length c0_1] 26 (0,0)) (by (with_reducible repeat first|apply Y11|apply Y13|apply Y12);exact BK448.out) hb);have n8_:=Y0 (below_step (by repeat (with_reducible first|exact HB.out|apply Y3|apply Y1|apply Y2|refine Y4 ?_ GE431.out|refine Y4 ?_ GE444.out|refine Y4 ?_ GE448.out)) hb);clear HO438;clear HO441;clear HO447;clear BK431;clear BK444;clear BK448;clear HB;have HO438:=n0_;have HO441:=n1_;have HO447:=n2_;have HO460:=n3_;have HO463:=n4_;have BK431:=n5_;have BK444:=n6_;have BK448:=n7_;have HB:=n8_;clear n0_ n1_ n2_ n3_ n4_ n5_ n6_ n7_ n8_;(try clear hb);(try clear hb2);(try clear hk);(try clear hi);(try clear ho0);(try clear ho1))|((with_reducible refine gate_dst (N:=16) rfl ?_);(try (refine gate_guard (by rfl) ?_;dsimp only));refine box_event ?hg (N:=16) ?hd (cs:=#[.slice none 0 0,.slice none 0 0]) (t:=46) ?hr ?_;(case hd=>rfl);(case hg=>rfl);(case hr=>first|(go_simp;done)|(go_simp;rfl));intro gb466 hg w73 hbox hb;have n0_:=Y0 (Kd.R_below (by (with_reducible repeat (first|apply Y5|apply Y6|apply Y7));exact HO438.out) hb);have n1_:=Y0 (Kd.R_below (by (with_reducible repeat (first|apply Y5|apply Y6|apply Y7));exact HO441.out) hb);have n2_:=Y0 (Kd.R_below (by (with_reducible repeat (first|apply Y5|apply Y6|apply Y7));exact HO447.out) hb);have n3_:=Y0 (Kd.R_below (by (with_reducible repeat (first|apply Y5|apply Y6|apply Y7));exact HO460.out) hb);have n4_:=Y0 (Kd.R_below (by (with_reducible repeat (first|apply Y5|apply Y6|apply Y7));exact HO463.out) hb);have n5_:=Y0 (blk_below (g:=gb431) (o:=.cells #[.slice (some ad449) l0_0.length c0_0,.slice A0_1 l0_1.length c0_1] 26 (0,0)) (by (with_reducible repeat first|apply Y11|apply Y13|apply Y12);exact BK431.out) hb);have n6_:=Y0 (blk_below (g:=gb444) (o:=.cells #[.slice Ao46 t436.length co46,.slice Ao49 t439.length co49] 46 (0,0)) (by (with_reducible repeat first|apply Y11|apply Y13|apply Y12);exact BK444.out) hb);have n7_:=Y0 (blk_below (g:=gb448) (o:=.cells #[.slice (some ⟨go39,0,none⟩) y445.length co56,.slice A0_1 l0_1.length c0_1] 26 (0,0)) (by (with_reducible repeat first|apply Y11|apply Y13|apply Y12);exact BK448.out) hb);have n8_:=Y0 (below_step (by repeat (with_reducible first|exact HB.out|apply Y3|apply Y1|apply Y2|refine Y4 ?_ GE431.out|refine Y4 ?_ GE444.out|refine Y4 ?_ GE448.out)) hb);have n9_:=Y0 (hbox);have n10_:=Y0 ((by rw [hg];exact (below_size (by repeat (with_reducible first|exact HB.out|apply Y3|apply Y1|apply Y2|refine Y4 ?_ GE431.out|refine Y4 ?_ GE444.out|refine Y4 ?_ GE448.out))):w.heap.size≤gb466));have n11_:=Y0 ((by rw [hg];exact (below_size (by repeat (with_reducible first|exact HB.out|apply Y3|apply Y1|apply Y2|refine Y4 ?_ GE431.out|refine Y4 ?_ GE444.out|refine Y4 ?_ GE448.out))):w.heap.size≤gb466));have n12_:=Y0 ((by rw [hg];exact Nat.ne_of_lt (blk_lt (g:=gb431) (o:=.cells #[.slice (some ad449) l0_0.length c0_0,.slice A0_1 l0_1.length c0_1] 26 (0,0)) (by (with_reducible repeat first|apply Y11|apply Y13|apply Y12);exact BK431.out)):gb431≠gb466));have n13_:=Y0 ((by rw [hg];exact Nat.ne_of_gt (blk_lt (g:=gb431) (o:=.cells #[.slice (some ad449) l0_0.length c0_0,.slice A0_1 l0_1.length c0_1] 26 (0,0)) (by (with_reducible repeat first|apply Y11|apply Y13|apply Y12);exact BK431.out)):gb466≠gb431));have n14_:=Y0 ((by rw [hg];exact Nat.ne_of_lt (blk_lt (g:=gb444) (o:=.cells #[.slice Ao46 t436.length co46,.slice Ao49 t439.length co49] 46 (0,0)) (by (with_reducible repeat first|apply Y11|apply Y13|apply Y12);exact BK444.out)):gb444≠gb466));have n15_:=Y0 ((by rw [hg];exact Nat.ne_of_gt (blk_lt (g:=gb444) (o:=.cells #[.slice Ao46 t436.length co46,.slice Ao49 t439.length co49] 46 (0,0)) (by (with_reducible repeat first|apply Y11|apply Y13|apply Y12);exact BK444.out)):gb466≠gb444));have n16_:=Y0 ((by rw [hg];exact Nat.ne_of_lt (blk_lt (g:=gb448) (o:=.cells #[.slice (some ⟨go39,0,none⟩) y445.length co56,.slice A0_1 l0_1.length c0_1] 26 (0,0)) (by (with_reducible repeat first|apply Y11|apply Y13|apply Y12);exact BK448.out)):gb448≠gb466));have n17_:=Y0 ((by rw [hg];exact Nat.ne_of_gt (blk_lt (g:=gb448) (o:=.cells #[.slice (some ⟨go39,0,none⟩) y445.length co56,.slice A0_1 l0_1.length c0_1] 26 (0,0)) (by (with_reducible repeat first|apply Y11|apply Y13|apply Y12);exact BK448.out)):gb466≠gb448));clear HO438;clear HO441;clear HO447;clear HO460;clear HO463;clear BK431;clear BK444;clear BK448;clear HB;have HO438:=n0_;have HO441:=n1_;have HO447:=n2_;have HO460:=n3_;have HO463:=n4_;have BK431:=n5_;have BK444:=n6_;have BK448:=n7_;have HB:=n8_;have BK466:=n9_;have GW466:=n10_;have GE466:=n11_;have NB431_466:=n12_;have NB466_431:=n13_;have NB444_466:=n14_;have NB466_444:=n15_;have NB448_466:=n16_;have NB466_448:=n17_;clear n0_ n1_ n2_ n3_ n4_ n5_ n6_ n7_ n8_ n9_ n10_ n11_ n12_ n13_ n14_ n15_ n16_ n17_;clear hb hbox hg;obtain ⟨Ao74,co74,eo74⟩:=Kd.R_slice HO460.out;subst eo74;have hnb75:=NB466_431.out;have hnc75:=NB431_466.out;have hnb76:=NB466_444.out;have hnc76:=NB444_466.out;have hnb77:=NB466_448.out;have hnc77:=NB448_466.out;have ⟨hcz78_0,hcz78_1,hfz78_0,hfz78_1⟩:=sq_box2 BK466.out;obtain ⟨Ao79,co79,eo79⟩:=Kd.R_slice HO463.out;subst eo79;have ⟨hcz80_0,hcz80_1,hfz80_0,hfz80_1⟩:=sq_box2 BK444.out)|(go_at_call 24;(with_reducible refine (table_Same.calls _ _ t436 _ _ t439 _ _ t458 _ _ t461 t467 _ ?side1 ?side2 ?side3 ?side4 ?side5 ?side6 ?side7 ?side8 A42.out).mono ?_);(case side1=>refine (Kd.R_reads' (e:=57) (base:=w.heap.size) (ok:=fun k_=>(True∧some k_≠(.slice Ao74 t458.length co74:Value).ownBlock)) (n:=t436.length) (c:=co46) ?_).2.2;exact (by (with_reducible repeat (first|apply Y5|apply Y6|apply Y7));exact (Kd.R_mono (Kd.R_far (p:=⟨gb466,1,none⟩) (Kd.R_far (p:=⟨gb466,0,none⟩) (Kd.R_types HO438.out BK466.out (by first|decide|(simp only [msX_E,msY_E];decide))) (fun _ hk=>hk.2) (.slice Ao74 t458.length co74)) (fun _ hk=>hk.2) (.slice Ao79 t461.length co79)) (fun _ h_=>h_.1))));(case side2=>exact (Kd.R_reads' HO438.out).2.1);(case side3=>refine (Kd.R_reads' (e:=119) (base:=w.heap.size) (ok:=fun k_=>(True∧some k_≠(.slice Ao79 t461.length co79:Value).ownBlock)) (n:=t439.length) (c:=co49) ?_).2.2;exact (by (with_reducible repeat (first|apply Y5|apply Y6|apply Y7));exact (Kd.R_mono (Kd.R_far (p:=⟨gb466,1,none⟩) (Kd.R_far (p:=⟨gb466,0,none⟩) (Kd.R_types HO441.out BK466.out (by first|decide|(simp only [msX_E,msY_E];decide))) (fun _ hk=>hk.2) (.slice Ao74 t458.length co74)) (fun _ hk=>hk.2) (.slice Ao79 t461.length co79)) (fun _ h_=>h_.1))));(case side4=>exact (Kd.R_reads' HO441.out).2.1);(case side5=>refine (Kd.R_reads' (e:=57) (base:=w.heap.size) (ok:=fun k_=>(True∧some k_≠(.slice Ao46 t436.length co46:Value).ownBlock)) (n:=t458.length) (c:=co74) ?_).2.2;exact (by (with_reducible repeat (first|apply Y5|apply Y6|apply Y7));exact (Kd.R_mono (Kd.R_far (p:=⟨gb466,1,none⟩) (Kd.R_far (p:=⟨gb466,0,none⟩) (Kd.R_types HO460.out BK466.out (by first|decide|(simp only [msX_E,msY_E];decide))) (fun _ hk=>hk.2) (.slice Ao74 t458.length co74)) (fun _ hk=>hk.2) (.slice Ao79 t461.length co79)) (fun _ h_=>h_.1))));(case side6=>exact (Kd.R_reads' HO460.out).2.1);(case side7=>refine (Kd.R_reads' (e:=119) (base:=w.heap.size) (ok:=fun k_=>(True∧some k_≠(.slice Ao49 t439.length co49:Value).ownBlock)) (n:=t461.length) (c:=co79) ?_).2.2;exact (by (with_reducible repeat (first|apply Y5|apply Y6|apply Y7));exact (Kd.R_mono (Kd.R_far (p:=⟨gb466,1,none⟩) (Kd.R_far (p:=⟨gb466,0,none⟩) (Kd.R_types HO463.out BK466.out (by first|decide|(simp only [msX_E,msY_E];decide))) (fun _ hk=>hk.2) (.slice Ao74 t458.length co74)) (fun _ hk=>hk.2) (.slice Ao79 t461.length co79)) (fun _ h_=>h_.1))));(case side8=>exact (Kd.R_reads' HO463.out).2.1);rintro e w81 ⟨rfl,hb⟩;have n0_:=Y0 (Kd.R_below (by (with_reducible repeat (first|apply Y5|apply Y6|apply Y7));exact (Kd.R_mono (Kd.R_far (p:=⟨gb466,1,none⟩) (Kd.R_far (p:=⟨gb466,0,none⟩) (Kd.R_types HO438.out BK466.out (by first|decide|(simp only [msX_E,msY_E];decide))) (fun _ hk=>hk.2) (.slice Ao74 t458.length co74)) (fun _ hk=>hk.2) (.slice Ao79 t461.length co79)) (fun _ h_=>h_.1))) hb);have n1_:=Y0 (Kd.R_below (by (with_reducible repeat (first|apply Y5|apply Y6|apply Y7));exact (Kd.R_mono (Kd.R_far (p:=⟨gb466,1,none⟩) (Kd.R_far (p:=⟨gb466,0,none⟩) (Kd.R_types HO441.out BK466.out (by first|decide|(simp only [msX_E,msY_E];decide))) (fun _ hk=>hk.2) (.slice Ao74 t458.length co74)) (fun _ hk=>hk.2) (.slice Ao79 t461.length co79)) (fun _ h_=>h_.1))) hb);have n2_:=Y0 (Kd.R_below (by (with_reducible repeat (first|apply Y5|apply Y6|apply Y7));exact (Kd.R_mono (Kd.R_far (p:=⟨gb466,1,none⟩) (Kd.R_far (p:=⟨gb466,0,none⟩) (Kd.R_types HO447.out BK466.out (by first|decide|(simp only [msX_E,msY_E];decide))) (fun _ hk=>hk.2) (.slice Ao74 t458.length co74)) (fun _ hk=>hk.2) (.slice Ao79 t461.length co79)) (fun _ h_=>h_.1))) hb);have n3_:=Y0 (Kd.R_below (by (with_reducible repeat (first|apply Y5|apply Y6|apply Y7));exact (Kd.R_mono (Kd.R_far (p:=⟨gb466,1,none⟩) (Kd.R_far (p:=⟨gb466,0,none⟩) (Kd.R_types HO460.out BK466.out (by first|decide|(simp only [msX_E,msY_E];decide))) (fun _ hk=>hk.2) (.slice Ao74 t458.length co74)) (fun _ hk=>hk.2) (.slice Ao79 t461.length co79)) (fun _ h_=>h_.1))) hb);have n4_:=Y0 (Kd.R_below (by (with_reducible repeat (first|apply Y5|apply Y6|apply Y7));exact (Kd.R_mono (Kd.R_far (p:=⟨gb466,1,none⟩) (Kd.R_far (p:=⟨gb466,0,none⟩) (Kd.R_types HO463.out BK466.out (by first|decide|(simp only [msX_E,msY_E];decide))) (fun _ hk=>hk.2) (.slice Ao74 t458.length co74)) (fun _ hk=>hk.2) (.slice Ao79 t461.length co79)) (fun _ h_=>h_.1))) hb);have n5_:=Y0 (blk_below (g:=gb431) (o:=.cells #[.slice (some ad449) l0_0.length c0_0,.slice A0_1 l0_1.length c0_1] 26 (0,0)) (by (with_reducible repeat first|apply Y11|apply Y13|apply Y12);refine blk_far ?_ NB431_466.out _;(with_reducible repeat first|apply Y11|apply Y13|apply Y12);refine blk_far ?_ NB431_466.out _;(with_reducible repeat first|apply Y11|apply Y13|apply Y12);exact BK431.out) hb);have n6_:=Y0 (blk_below (g:=gb444) (o:=.cells #[.slice Ao46 t436.length co46,.slice Ao49 t439.length co49] 46 (0,0)) (by (with_reducible repeat first|apply Y11|apply Y13|apply Y12);refine blk_far ?_ NB444_466.out _;(with_reducible repeat first|apply Y11|apply Y13|apply Y12);refine blk_far ?_ NB444_466.out _;(with_reducible repeat first|apply Y11|apply Y13|apply Y12);exact BK444.out) hb);have n7_:=Y0 (blk_below (g:=gb448) (o:=.cells #[.slice (some ⟨go39,0,none⟩) y445.length co56,.slice A0_1 l0_1.length c0_1] 26 (0,0)) (by (with_reducible repeat first|apply Y11|apply Y13|apply Y12);refine blk_far ?_ NB448_466.out _;(with_reducible repeat first|apply Y11|apply Y13|apply Y12);refine blk_far ?_ NB448_466.out _;(with_reducible repeat first|apply Y11|apply Y13|apply Y12);exact BK448.out) hb);have n8_:=Y0 (blk_below (g:=gb466) (o:=.cells #[.slice Ao74 t458.length co74,.slice Ao79 t461.length co79] 46 (0,0)) (by (with_reducible repeat first|apply Y11|apply Y13|apply Y12);refine blk_put (cs:=#[.slice Ao74 t458.length co74,.slice none 0 0]) ?_ 1 _ rfl;(with_reducible repeat first|apply Y11|apply Y13|apply Y12);refine blk_put (cs:=#[.slice none 0 0,.slice none 0 0]) ?_ 0 _ rfl;(with_reducible repeat first|apply Y11|apply Y13|apply Y12);exact BK466.out) hb);have n9_:=Y0 (below_step (by repeat (with_reducible first|exact HB.out|apply Y3|apply Y1|apply Y2|refine Y4 ?_ GE431.out|refine Y4 ?_ GE444.out|refine Y4 ?_ GE448.out|refine Y4 ?_ GE466.out)) hb);clear HO438;clear HO441;clear HO447;clear HO460;clear HO463;clear BK431;clear BK444;clear BK448;clear BK466;clear HB;have HO438:=n0_;have HO441:=n1_;have HO447:=n2_;have HO460:=n3_;have HO463:=n4_;have BK431:=n5_;have BK444:=n6_;have BK448:=n7_;have BK466:=n8_;have HB:=n9_;clear n0_ n1_ n2_ n3_ n4_ n5_ n6_ n7_ n8_ n9_;(try clear hb);(try clear hb2);(try clear hk);(try clear hi)))
   go_ret
   exact ⟨by first|rfl|(rw [hv_];done)|(simp [hv_];done)|(simp [← hv_];done)|(simp [] <;> rfl)|(simp [*] <;> rfl),by repeat (with_reducible first|exact HB.out|apply Y3|apply Y1|apply Y2|refine Y4 ?_ GE431.out|refine Y4 ?_ GE444.out|refine Y4 ?_ GE448.out|refine Y4 ?_ GE466.out)⟩
open Go.Deep Go.ChangeShapes Go.WideShapes in
theorem lst_of {α:Type} {l:List α}:(l.length=1→∃ a,l=[a])∧(l.length=2→∃ a b,l=[a,b])∧(l.length=3→∃ a b c,l=[a,b,c])∧(l.length=7→∃ a b c d e f g,l=[a,b,c,d,e,f,g]):=by
 refine ⟨fun h=>?_,fun h=>?_,fun h=>?_,fun h=>?_⟩
 ·match l,h with
  | [a],_=>exact ⟨a,rfl⟩
 ·match l,h with
  | [a,b],_=>exact ⟨a,b,rfl⟩
 ·match l,h with
  | [a,b,c],_=>exact ⟨a,b,c,rfl⟩
 ·match l,h with
  | [a,b,c,d,e,f,g],_=>exact ⟨a,b,c,d,e,f,g,rfl⟩
open Go.Deep Go.ChangeShapes Go.WideShapes in
theorem open_row {α:Type} [Inhabited α] (d:Kd α) (P:α→Prop) {e t:TypeId} (ht:Tryz.prog.underlying t=some (.slice e)) (hsz:Tryz.prog.cellsOf e=d.sz) {H:Type} {enc:TypeId × Value→H} {w:World} {sp:Nat→Bool} {hd:Bool}
  (elem:∀ (fuel:Nat) (cs:List Value) (x:DataW H × List MemPlace),DataW.trod enc Tryz.prog w 0 sp hd fuel e cs=some x→∃ N:α,d.K w N cs∧P N) :
  ∀ (fuel:Nat) (v:Value) (x:DataW H × List MemPlace),DataW.trod enc Tryz.prog w 0 sp hd fuel t [v]=some x→∃ (A:Option Addr) (c:Nat) (l:List α),v = .slice A l.length c∧d.C w A l.length l∧l.length≤c∧l.length≤maxLen∧∀ y ∈ l,P y:=by
 intro fuel v x h
 rcases DataW.trod_slice ht h with ⟨h0,_⟩|⟨a,len,cap,elems,rest,m,hm,h0,_,hb,hlc,hcm,hln,hel,_,_⟩
 ·simp only [List.cons.injEq,and_true] at h0
  subst h0
  exact ⟨none,0,[],rfl,Kd.C_nil _ _,Nat.le_refl _,Nat.zero_le _,fun y hy=>absurd hy List.not_mem_nil⟩
 ·simp only [List.cons.injEq,and_true] at h0
  subst h0
  have each:∀ i,i < len→∃ N:α,∃ c,P N∧c.length=d.sz∧d.K w N c∧∀ j u,c[j]?=some u→w.cell? (a.add (i * d.sz + j))=some u:=by
   intro i hi
   have h1:=hel i hi
   rw [List.getElem?_eq_getElem (show i < elems.length by omega)] at h1
   obtain ⟨c,h2,h3⟩:=Option.bind_eq_some_iff.1 h1
   rw [hsz] at h2
   obtain ⟨_,h4,h5⟩:=World.cells?_some h2
   obtain ⟨N,hN,ht⟩:=elem m c _ h3
   refine ⟨N,c,ht,h4,hN,fun j u hu=>?_⟩
   have hj:j < d.sz:=by rw [← h4];exact (List.getElem?_eq_some_iff.1 hu).1
   rw [← Go.Deep.add_add,h5 j hj]
   exact hu
  obtain ⟨f,hF⟩:=choose_lt each
  have hL:((List.range len).map f).length=len:=by simp
  refine ⟨some a,cap,(List.range len).map f,by rw [hL],⟨rfl,by rw [hL];exact Nat.le_trans (Nat.le_trans hlc hcm) (by decide),fun _=>⟨a,rfl,fun j p hj=>?_⟩⟩,by rw [hL];exact hlc,by rw [hL];exact Nat.le_trans hlc hcm,fun y hy=>?_⟩
  ·have hjl:j < len:=by have:=(List.getElem?_eq_some_iff.1 hj).1;rwa [hL] at this
   have hp:f j=p:=by simpa [hjl] using hj
   rw [← hp]
   obtain ⟨c,_,hc⟩:=hF j hjl
   exact ⟨c,hc⟩
  ·obtain ⟨j,hj,rfl⟩:=List.mem_map.1 hy
   obtain ⟨c,ht,_⟩:=hF j (List.mem_range.1 hj)
   exact ht
section
variable {H:Type} {enc:TypeId × Value→H} {w:World} {sp:Nat→Bool} {hd:Bool}
open Go.Deep Go.ChangeShapes Go.WideShapes in
theorem open_str1:∀ (fuel:Nat) (cs:List Value) (x:DataW H × List MemPlace),DataW.trod enc Tryz.prog w 0 sp hd fuel 9 cs=some x→∃ N:ByteArray,Kd.string.K w N cs∧N.size≤maxLen:=by
 intro fuel cs x h
 obtain ⟨a,e,_,hs⟩:=DataW.trod_string Tryz.underlying9 h
 exact ⟨a,e,hs⟩
open Go.Deep Go.ChangeShapes Go.WideShapes in
theorem open_int1:∀ (fuel:Nat) (cs:List Value) (x:DataW H × List MemPlace),DataW.trod enc Tryz.prog w 0 sp hd fuel 2 cs=some x→∃ N:Int,(Kd.int .i64).K w N cs∧(Lit.int .i64 N).wf=true:=by
 intro fuel cs x h
 obtain ⟨a,e,_,hs⟩:=DataW.trod_int Tryz.underlying2 h
 exact ⟨a,e,hs⟩
end
theorem lst_of2 {α:Type} {l:List α}:(l.length=5→∃ a b c d e,l=[a,b,c,d,e]):=by
 intro h
 match l,h with
 | [a,b,c,d,e],_=>exact ⟨a,b,c,d,e,rfl⟩
instance odFs:Inhabited (S36):=⟨⟨⟨#[]⟩,⟨#[]⟩,false,0,⟨#[]⟩,0,0⟩⟩
instance odVs:Inhabited (S92):=⟨⟨⟨#[]⟩,0,0⟩⟩
instance odMs:Inhabited (S34):=⟨⟨⟨#[]⟩,[],[],[],0⟩⟩
instance odEs:Inhabited (S68):=⟨⟨⟨#[]⟩,[],0⟩⟩
def MsOk (x:S34):Prop:=x.f0.size≤maxLen∧(x.f1.length≤maxLen∧x.f2.length≤maxLen∧x.f3.length≤maxLen)∧(∀ y ∈ x.f1,RfOk y)∧(∀ s ∈ x.f2,s.size≤maxLen)∧∀ q ∈ x.f3,(Lit.int .i64 q).wf=true
def EsOk (x:S68):Prop:=x.f0.size≤maxLen∧x.f1.length≤maxLen∧∀ v ∈ x.f1,v.f0.size≤maxLen∧(Lit.int .i64 v.f1).wf=true
def FiOk (M:List (S34)) (E:List (S68)):Prop:=(M.length≤maxLen∧E.length≤maxLen)∧(∀ x ∈ M,MsOk x)∧∀ x ∈ E,EsOk x
section
variable {H:Type} {enc:TypeId × Value→H} {w:World} {sp:Nat→Bool} {hd:Bool}
open Go.Deep Go.ChangeShapes Go.WideShapes in
theorem open_fs:∀ (fuel:Nat) (cs:List Value) (x:DataW H × List MemPlace),DataW.trod enc Tryz.prog w 0 sp hd fuel 36 cs=some x→∃ N:S36,k36.K w N cs∧RfOk N:=by
 intro fuel cs x h
 obtain ⟨xs,n,rfl,hx,hl,hlen,hf⟩:=DataW.trod_struct Tryz.underlying36 h
 have hcN:Tryz.prog.cellsOf 36=7:=by kernel_rfl
 have hc_int:Tryz.prog.cellsOf 3=1:=by kernel_rfl
 have hc_i64:Tryz.prog.cellsOf 2=1:=by kernel_rfl
 have hc_str:Tryz.prog.cellsOf 9=1:=by kernel_rfl
 have hc_bool:Tryz.prog.cellsOf 4=1:=by kernel_rfl
 obtain ⟨v0,v1,v2,v3,v4,v5,v6,rfl⟩:=lst_of.2.2.2 (hl.trans hcN)
 obtain ⟨y0,y1,y2,y3,y4,y5,y6,rfl⟩:=lst_of.2.2.2 hlen
 have g0:DataW.trod enc Tryz.prog w 0 sp hd n 9 [v0]=some y0:=by simpa [hc_str] using hf 0 _ rfl
 have g1:DataW.trod enc Tryz.prog w 0 sp hd n 9 [v1]=some y1:=by simpa [hc_str] using hf 1 _ rfl
 have g2:DataW.trod enc Tryz.prog w 0 sp hd n 4 [v2]=some y2:=by simpa [hc_bool] using hf 2 _ rfl
 have g3:DataW.trod enc Tryz.prog w 0 sp hd n 3 [v3]=some y3:=by simpa [hc_int] using hf 3 _ rfl
 have g4:DataW.trod enc Tryz.prog w 0 sp hd n 9 [v4]=some y4:=by simpa [hc_str] using hf 4 _ rfl
 have g5:DataW.trod enc Tryz.prog w 0 sp hd n 2 [v5]=some y5:=by simpa [hc_i64] using hf 5 _ rfl
 have g6:DataW.trod enc Tryz.prog w 0 sp hd n 3 [v6]=some y6:=by simpa [hc_int] using hf 6 _ rfl
 obtain ⟨a0,e0,_,hs0⟩:=DataW.trod_string Tryz.underlying9 g0
 obtain ⟨a1,e1,_,hs1⟩:=DataW.trod_string Tryz.underlying9 g1
 obtain ⟨a2,e2,_⟩:=DataW.trod_bool Tryz.underlying4 g2
 obtain ⟨a3,e3,_,hw3⟩:=DataW.trod_int Tryz.underlying3 g3
 obtain ⟨a4,e4,_,hs4⟩:=DataW.trod_string Tryz.underlying9 g4
 obtain ⟨a5,e5,_,hw5⟩:=DataW.trod_int Tryz.underlying2 g5
 obtain ⟨a6,e6,_,hw6⟩:=DataW.trod_int Tryz.underlying3 g6
 simp only [List.cons.injEq,and_true] at e0 e1 e2 e3 e4 e5 e6
 subst e0 e1 e2 e3 e4 e5 e6
 exact ⟨⟨a0,a1,a2,a3,a4,a5,a6⟩,k36_mk w ⟨a0,a1,a2,a3,a4,a5,a6⟩ ,hs0,hs1,hs4,hw5⟩
open Go.Deep Go.ChangeShapes Go.WideShapes in
theorem open_vs:∀ (fuel:Nat) (cs:List Value) (x:DataW H × List MemPlace),DataW.trod enc Tryz.prog w 0 sp hd fuel 92 cs=some x→∃ N:S92,k92.K w N cs∧(N.f0.size≤maxLen∧(Lit.int .i64 N.f1).wf=true):=by
 intro fuel cs x h
 obtain ⟨xs,n,rfl,hx,hl,hlen,hf⟩:=DataW.trod_struct Tryz.underlying92 h
 have hcN:Tryz.prog.cellsOf 92=3:=by kernel_rfl
 have hc_int:Tryz.prog.cellsOf 3=1:=by kernel_rfl
 have hc_i64:Tryz.prog.cellsOf 2=1:=by kernel_rfl
 have hc_str:Tryz.prog.cellsOf 9=1:=by kernel_rfl
 obtain ⟨v0,v1,v2,rfl⟩:=lst_of.2.2.1 (hl.trans hcN)
 obtain ⟨y0,y1,y2,rfl⟩:=lst_of.2.2.1 hlen
 have g0:DataW.trod enc Tryz.prog w 0 sp hd n 9 [v0]=some y0:=by simpa [hc_str] using hf 0 _ rfl
 have g1:DataW.trod enc Tryz.prog w 0 sp hd n 2 [v1]=some y1:=by simpa [hc_i64] using hf 1 _ rfl
 have g2:DataW.trod enc Tryz.prog w 0 sp hd n 3 [v2]=some y2:=by simpa [hc_int] using hf 2 _ rfl
 obtain ⟨a0,e0,_,hs0⟩:=DataW.trod_string Tryz.underlying9 g0
 obtain ⟨a1,e1,_,hw1⟩:=DataW.trod_int Tryz.underlying2 g1
 obtain ⟨a2,e2,_,hw2⟩:=DataW.trod_int Tryz.underlying3 g2
 simp only [List.cons.injEq,and_true] at e0 e1 e2
 subst e0 e1 e2
 exact ⟨⟨a0,a1,a2⟩,k92_mk w ⟨a0,a1,a2⟩ ,hs0,hw1⟩
open Go.Deep Go.ChangeShapes Go.WideShapes in
theorem open_ms:∀ (fuel:Nat) (cs:List Value) (x:DataW H × List MemPlace),DataW.trod enc Tryz.prog w 0 sp hd fuel 34 cs=some x→∃ N:S34,k34.K w N cs∧MsOk N:=by
 intro fuel cs x h
 obtain ⟨xs,n,rfl,hx,hl,hlen,hf⟩:=DataW.trod_struct Tryz.underlying34 h
 have hcN:Tryz.prog.cellsOf 34=5:=by kernel_rfl
 have hc_int:Tryz.prog.cellsOf 3=1:=by kernel_rfl
 have hc_str:Tryz.prog.cellsOf 9=1:=by kernel_rfl
 have hc_r1:Tryz.prog.cellsOf 30=1:=by kernel_rfl
 have hc_r2:Tryz.prog.cellsOf 31=1:=by kernel_rfl
 have hc_r3:Tryz.prog.cellsOf 32=1:=by kernel_rfl
 obtain ⟨v0,v1,v2,v3,v4,rfl⟩:=lst_of2 (hl.trans hcN)
 obtain ⟨y0,y1,y2,y3,y4,rfl⟩:=lst_of2 hlen
 have g0:DataW.trod enc Tryz.prog w 0 sp hd n 9 [v0]=some y0:=by simpa [hc_str] using hf 0 _ rfl
 have g1:DataW.trod enc Tryz.prog w 0 sp hd n 30 [v1]=some y1:=by simpa [hc_r1] using hf 1 _ rfl
 have g2:DataW.trod enc Tryz.prog w 0 sp hd n 31 [v2]=some y2:=by simpa [hc_r2] using hf 2 _ rfl
 have g3:DataW.trod enc Tryz.prog w 0 sp hd n 32 [v3]=some y3:=by simpa [hc_r3] using hf 3 _ rfl
 have g4:DataW.trod enc Tryz.prog w 0 sp hd n 3 [v4]=some y4:=by simpa [hc_int] using hf 4 _ rfl
 obtain ⟨a0,e0,_,hs0⟩:=DataW.trod_string Tryz.underlying9 g0
 obtain ⟨a4,e4,_,hw4⟩:=DataW.trod_int Tryz.underlying3 g4
 simp only [List.cons.injEq,and_true] at e0 e4
 subst e0 e4
 obtain ⟨A1,c1,l1,rfl,hC1,hc1,hm1,hP1⟩:=open_row k36 RfOk Tryz.underlying30 (by kernel_rfl) open_fs n v1 y1 g1
 obtain ⟨A2,c2,l2,rfl,hC2,hc2,hm2,hP2⟩:=open_row Kd.string (fun N=>N.size≤maxLen) Tryz.underlying31 (by kernel_rfl) open_str1 n v2 y2 g2
 obtain ⟨A3,c3,l3,rfl,hC3,hc3,hm3,hP3⟩:=open_row (Kd.int .i64) (fun N=>(Lit.int .i64 N).wf=true) Tryz.underlying32 (by kernel_rfl) open_int1 n v3 y3 g3
 exact ⟨⟨a0,l1,l2,l3,a4⟩,k34_mk w ⟨a0,l1,l2,l3,a4⟩ hc1 hC1 hc2 hC2 hc3 hC3,hs0,⟨hm1,hm2,hm3⟩,hP1,hP2,hP3⟩
open Go.Deep Go.ChangeShapes Go.WideShapes in
theorem open_es:∀ (fuel:Nat) (cs:List Value) (x:DataW H × List MemPlace),DataW.trod enc Tryz.prog w 0 sp hd fuel 68 cs=some x→∃ N:S68,k68.K w N cs∧EsOk N:=by
 intro fuel cs x h
 obtain ⟨xs,n,rfl,hx,hl,hlen,hf⟩:=DataW.trod_struct Tryz.underlying68 h
 have hcN:Tryz.prog.cellsOf 68=3:=by kernel_rfl
 have hc_int:Tryz.prog.cellsOf 3=1:=by kernel_rfl
 have hc_str:Tryz.prog.cellsOf 9=1:=by kernel_rfl
 have hc_r1:Tryz.prog.cellsOf 66=1:=by kernel_rfl
 obtain ⟨v0,v1,v2,rfl⟩:=lst_of.2.2.1 (hl.trans hcN)
 obtain ⟨y0,y1,y2,rfl⟩:=lst_of.2.2.1 hlen
 have g0:DataW.trod enc Tryz.prog w 0 sp hd n 9 [v0]=some y0:=by simpa [hc_str] using hf 0 _ rfl
 have g1:DataW.trod enc Tryz.prog w 0 sp hd n 66 [v1]=some y1:=by simpa [hc_r1] using hf 1 _ rfl
 have g2:DataW.trod enc Tryz.prog w 0 sp hd n 3 [v2]=some y2:=by simpa [hc_int] using hf 2 _ rfl
 obtain ⟨a0,e0,_,hs0⟩:=DataW.trod_string Tryz.underlying9 g0
 obtain ⟨a2,e2,_,hw2⟩:=DataW.trod_int Tryz.underlying3 g2
 simp only [List.cons.injEq,and_true] at e0 e2
 subst e0 e2
 obtain ⟨A1,c1,l1,rfl,hC1,hc1,hm1,hP1⟩:=open_row k92 (fun N=>N.f0.size≤maxLen∧(Lit.int .i64 N.f1).wf=true) Tryz.underlying66 (by kernel_rfl) open_vs n v1 y1 g1
 exact ⟨⟨a0,l1,a2⟩,k68_mk w ⟨a0,l1,a2⟩ hc1 hC1,hs0,hm1,hP1⟩
set_option maxRecDepth 100000 in
open Go.Deep Go.ChangeShapes Go.WideShapes in
theorem open_file {r:Reach} {b0:Nat} {v:Value} {d:DataW H} {p:List MemPlace} (hv:Value.okWide Tryz.prog w r b0 26 v) (h:DataW.Trod enc Tryz.prog w 0 sp hd 26 v d p) :
  ∃ (M:List (S34)) (E:List (S68)) (A0:Option Addr) (c0:Nat) (A1:Option Addr) (c1:Nat),v = .agg #[.slice A0 M.length c0,.slice A1 E.length c1]∧Kd.C k34 w A0 M.length M∧M.length≤c0∧Kd.C k68 w A1 E.length E∧E.length≤c1∧FiOk M E:=by
 obtain ⟨cs,rfl,hsz⟩:=okWide_struct Tryz.underlying26 hv
 obtain ⟨fuel,hfu⟩:=h
 have e3:(Value.agg cs).cells=cs:=by simp [Value.cells]
 rw [e3] at hfu
 obtain ⟨xs,n,rfl,hx,hl,hlen,hf⟩:=DataW.trod_struct Tryz.underlying26 hfu
 have hc2:Tryz.prog.cellsOf 26=2:=by kernel_rfl
 have hcl:Tryz.prog.cellsOf 23=1:=by kernel_rfl
 have hcn:Tryz.prog.cellsOf 24=1:=by kernel_rfl
 obtain ⟨v0,v1,hcs⟩:=lst_of.2.1 (hl.trans hc2)
 obtain ⟨y0,y1,rfl⟩:=lst_of.2.1 hlen
 rw [hcs] at hf
 have g0:DataW.trod enc Tryz.prog w 0 sp hd n 23 [v0]=some y0:=by simpa [hcl] using hf 0 _ rfl
 have g1:DataW.trod enc Tryz.prog w 0 sp hd n 24 [v1]=some y1:=by simpa [hcn] using hf 1 _ rfl
 obtain ⟨A0,c0,M,rfl,hC0,hc0,hm0,hP0⟩:=open_row k34 MsOk Tryz.underlying23 (by kernel_rfl) open_ms n v0 y0 g0
 obtain ⟨A1,c1,E,rfl,hC1,hc1,hm1,hP1⟩:=open_row k68 EsOk Tryz.underlying24 (by kernel_rfl) open_es n v1 y1 g1
 have e4:cs=#[.slice A0 M.length c0,.slice A1 E.length c1]:=Array.toList_inj.1 hcs
 exact ⟨M,E,A0,c0,A1,c1,by rw [e4],hC0,hc0,hC1,hc1,⟨hm0,hm1⟩,hP0,hP1⟩
end
end Go.Proofs.YtddpjjhekhompaaGreatDoor.P
