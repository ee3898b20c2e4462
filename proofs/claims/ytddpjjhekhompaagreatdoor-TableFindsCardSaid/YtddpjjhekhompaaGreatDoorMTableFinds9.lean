/- Part 9 of what the law TableFinds leans on: contracts of the functions that it reaches, and plain lemmas; printed walks and words (by the kit's print, through wip/mp.py) and the session's own texts, one behind the other, what is not used left out (wip/prune.py). -/
import Derived.Test.YtddpjjhekhompaaGreatDoorMTableFinds1
import Derived.Test.YtddpjjhekhompaaGreatDoorMTableFinds2
import Derived.Test.YtddpjjhekhompaaGreatDoorMTableFinds3
import Derived.Test.YtddpjjhekhompaaGreatDoorMTableFinds4
import Derived.Test.YtddpjjhekhompaaGreatDoorMTableFinds5
import Derived.Test.YtddpjjhekhompaaGreatDoorMTableFinds6
import Derived.Test.YtddpjjhekhompaaGreatDoorMTableFinds7
import Derived.Test.YtddpjjhekhompaaGreatDoorMTableFinds8
namespace Go.Proofs.YtddpjjhekhompaaGreatDoor.P
open Go.RowKit Go.Proofs.YtddpjjhekhompaaGreatDoorW.PrintWords Go.Proofs.YtddpjjhekhompaaGreatDoorW.PrintLast Go.Proofs.YtddpjjhekhompaaGreatDoorW.PrintMore
attribute [local go_sem] max2_int max_two
set_option linter.unusedVariables false
set_option linter.unusedSimpArgs false
attribute [local go_sem high] eqA51
mutual
def trufflelaw08_TableFinds.j0:Nat→Int→ByteArray→Int→Bool→Bool→List (S57)→List (S119)→Option (Bool)
 | 0,_,_,_,_,_,_,_=>none
 | k + 1,x1,x2,x3,x9,x30,x373000,x373001=>if x30=true then (some x9) else ((table_Find.f x373000 x373001 x1 x2).bind fun bt375=>((table_By.f x373000 x373001 x1 x3).bind fun bt384=>(if bt375.2.2.2.2.2.2.2=true then (if bt375.2.1.toList=x2.toList then (if bt384.2.2.2.2.2.2.2=true then (if bt384.1=x3 then (trufflelaw08_TableFinds.j1 k x1 false x373000 x373001) else (trufflelaw08_TableFinds.j1 k x1 true x373000 x373001)) else (trufflelaw08_TableFinds.j1 k x1 (!(bt384.1 == 0) || (!(bt384.2.1.toList == ([]:List UInt8)) || (!(bt384.2.2.1 == 0) || (!(bt384.2.2.2.1 == 0) || (bt384.2.2.2.2.1 || (!(bt384.2.2.2.2.2.1 == 0) || (!(bt384.2.2.2.2.2.2.1 == 0)))))))) x373000 x373001)) else (trufflelaw08_TableFinds.j1 k x1 true x373000 x373001)) else (if bt384.2.2.2.2.2.2.2=true then (if bt384.1=x3 then (if (!(bt375.1 == 0) || (!(bt375.2.1.toList == ([]:List UInt8)) || (!(bt375.2.2.1 == 0) || (!(bt375.2.2.2.1 == 0) || (bt375.2.2.2.2.1 || (!(bt375.2.2.2.2.2.1 == 0) || (!(bt375.2.2.2.2.2.2.1 == 0))))))))=true then (trufflelaw08_TableFinds.j1 k x1 true x373000 x373001) else (trufflelaw08_TableFinds.j1 k x1 false x373000 x373001)) else (trufflelaw08_TableFinds.j1 k x1 true x373000 x373001)) else (if (!(bt375.1 == 0) || (!(bt375.2.1.toList == ([]:List UInt8)) || (!(bt375.2.2.1 == 0) || (!(bt375.2.2.2.1 == 0) || (bt375.2.2.2.2.1 || (!(bt375.2.2.2.2.2.1 == 0) || (!(bt375.2.2.2.2.2.2.1 == 0))))))))=true then (trufflelaw08_TableFinds.j1 k x1 true x373000 x373001) else (trufflelaw08_TableFinds.j1 k x1 (!(bt384.1 == 0) || (!(bt384.2.1.toList == ([]:List UInt8)) || (!(bt384.2.2.1 == 0) || (!(bt384.2.2.2.1 == 0) || (bt384.2.2.2.2.1 || (!(bt384.2.2.2.2.2.1 == 0) || (!(bt384.2.2.2.2.2.2.1 == 0)))))))) x373000 x373001))))))
def trufflelaw08_TableFinds.j1:Nat→Int→Bool→List (S57)→List (S119)→Option (Bool)
 | 0,_,_,_,_=>none
 | k + 1,x1,x79,x373000,x373001=>if x79=true then (some false) else ((table_May.f x373000 x373001).bind fun t393=>(if t393=true then (if x1 < 0 then (trufflelaw08_TableFinds.j2 k x1 true x373000 x373001) else (trufflelaw08_TableFinds.j2 k x1 (decide (x1 ≥ (x373000.length:Int))) x373000 x373001)) else (trufflelaw08_TableFinds.j2 k x1 true x373000 x373001)))
def trufflelaw08_TableFinds.j2:Nat→Int→Bool→List (S57)→List (S119)→Option (Bool)
 | 0,_,_,_,_=>none
 | k + 1,x1,x93,x373000,x373001=>if x93=true then (some true) else (trufflelaw08_TableFinds.l0 k x1 0 x373000 x373001)
def trufflelaw08_TableFinds.l0:Nat→Int→Int→List (S57)→List (S119)→Option (Bool)
 | 0,_,_,_,_=>none
 | k + 1,x1,x15,x373000,x373001=>if 0≤x1 then (if x1 < (x373000.length:Int) then (if x15 < (((rd_T57 x373000 x1).f1).length:Int) then (if 0≤x15 then ((table_Find.f x373000 x373001 x1 ((rd_T51 ((rd_T57 x373000 x1).f1) x15).f1)).bind fun bt400=>((table_By.f x373000 x373001 x1 ((rd_T51 ((rd_T57 x373000 x1).f1) x15).f0)).bind fun bt411=>(if bt400.2.2.2.2.2.2.2=true then (if bt411.2.2.2.2.2.2.2=true then (if (!(bt400.1 == ((rd_T51 ((rd_T57 x373000 x1).f1) x15).f0)) || (!(bt400.2.1.toList == (((rd_T51 ((rd_T57 x373000 x1).f1) x15).f1).toList)) || (!(bt400.2.2.1 == ((rd_T51 ((rd_T57 x373000 x1).f1) x15).f2)) || (!(bt400.2.2.2.1 == ((rd_T51 ((rd_T57 x373000 x1).f1) x15).f3)) || (!(bt400.2.2.2.2.1 == ((rd_T51 ((rd_T57 x373000 x1).f1) x15).f4)) || (!(bt400.2.2.2.2.2.1 == ((rd_T51 ((rd_T57 x373000 x1).f1) x15).f5)) || (!(bt400.2.2.2.2.2.2.1 == ((rd_T51 ((rd_T57 x373000 x1).f1) x15).f6)))))))))=true then (some false) else (if (!(bt411.1 == bt400.1) || (!(bt411.2.1.toList == bt400.2.1.toList) || (!(bt411.2.2.1 == bt400.2.2.1) || (!(bt411.2.2.2.1 == bt400.2.2.2.1) || (!(bt411.2.2.2.2.1 == bt400.2.2.2.2.1) || (!(bt411.2.2.2.2.2.1 == bt400.2.2.2.2.2.1) || (!(bt411.2.2.2.2.2.2.1 == bt400.2.2.2.2.2.2.1))))))))=true then (some false) else (trufflelaw08_TableFinds.l0 k x1 (wrap64 (x15 + 1)) x373000 x373001))) else (some false)) else (some false)))) else (none)) else ((table_Root.f x373000 x373001 ((rd_T57 x373000 x1).f0)).bind fun bt396=>(if bt396.2=true then (some (bt396.1 == x1)) else (some false)))) else (none)) else (none)
end
def trufflelaw08_TableFinds.f (k:Nat) (l0_0:List (S57)) (l0_1:List (S119)) (a1:Int) (a2:ByteArray) (a3:Int):Option (Bool):=(trufflelaw08_awake.f).bind fun t373=>((truffleref08_Few.f k l0_0 l0_1).bind fun t374=>(if t373=true then (trufflelaw08_TableFinds.j0 k a1 a2 a3 t373 (!t374) l0_0 l0_1) else (trufflelaw08_TableFinds.j0 k a1 a2 a3 t373 true l0_0 l0_1)))
def trufflelaw08_TableFinds.T14:Bool × List (List Nat × List Nat):=(true,[([],[]),([],[]),([],[]),([2],[2]),([],[]),([3,4],[3,4]),([5],[5]),([6],[6]),([],[]),([7,8],[7,8]),([9],[9]),([10],[10]),([0,1,11],[0,1,11]),([12],[12]),([13],[13]),([13],[13]),([],[]),([16,14,12,0,1,2,3,4,5,6,7,8,9,10,11,12,13,14,16],[14,16]),([15,17,0,1,2,3,4,5,6,7,8,9,10,11,12,13,14,15,16,17],[15])])
def trufflelaw08_TableFinds.B14:List Nat:=[0,0,0,4,0,28,60,124,0,508,1020,2044,4095,8191,16383,16383,0,98303,262143]
theorem trufflelaw08_TableFinds.tab14:rtab .any (opsOf Tryz.f7 14)=trufflelaw08_TableFinds.T14:=by kernel_rfl
theorem trufflelaw08_TableFinds.bits14:waitsOk trufflelaw08_TableFinds.T14.2 trufflelaw08_TableFinds.B14=true:=by kernel_rfl
def trufflelaw08_TableFinds.T15:Bool × List (List Nat × List Nat):=(true,[([],[]),([],[]),([],[]),([2],[2]),([],[]),([3,4],[3,4]),([5],[5]),([6],[6]),([],[]),([7,8],[7,8]),([9],[9]),([10],[10]),([0,1,11],[0,1,11]),([12],[12]),([13],[13]),([13],[13]),([],[]),([16,14,12,0,1,2,3,4,5,6,7,8,9,10,11,12,13,14,16],[14,16]),([15,17,0,1,2,3,4,5,6,7,8,9,10,11,12,13,14,15,16,17],[15])])
def trufflelaw08_TableFinds.B15:List Nat:=[0,0,0,4,0,28,60,124,0,508,1020,2044,4095,8191,16383,16383,0,98303,262143]
theorem trufflelaw08_TableFinds.tab15:rtab .any (opsOf Tryz.f7 15)=trufflelaw08_TableFinds.T15:=by kernel_rfl
theorem trufflelaw08_TableFinds.bits15:waitsOk trufflelaw08_TableFinds.T15.2 trufflelaw08_TableFinds.B15=true:=by kernel_rfl
def trufflelaw08_TableFinds.T16:Bool × List (List Nat × List Nat):=(true,[([],[]),([0],[0]),([1],[1]),([2],[2]),([3,2],[2,3]),([2,4],[2,4]),([5,2],[5]),([6],[6]),([6],[6]),([8,6],[6,8]),([6],[6]),([9,10,6],[6,9,10]),([11,6],[6,11]),([12,6],[6,12]),([6],[6]),([13,14,6],[6,13,14]),([15,6],[6,15]),([7,16,6],[6,7,16]),([6,17],[6,17]),([18,6],[18]),([19],[19]),([19],[19]),([20,21,19],[19,20,21]),([19,22],[19,22])])
def trufflelaw08_TableFinds.B16:List Nat:=[0,1,3,7,15,31,63,127,127,383,127,1919,3967,8063,127,32639,65407,131071,262143,524287,1048575,1048575,4194303,8388607]
theorem trufflelaw08_TableFinds.tab16:rtab .any (opsOf Tryz.f7 16)=trufflelaw08_TableFinds.T16:=by kernel_rfl
theorem trufflelaw08_TableFinds.bits16:waitsOk trufflelaw08_TableFinds.T16.2 trufflelaw08_TableFinds.B16=true:=by kernel_rfl
def trufflelaw08_TableFinds.T18:Bool × List (List Nat × List Nat):=(true,[([],[]),([],[]),([1],[1]),([],[]),([2,3],[2,3]),([4],[4]),([5],[5]),([0,6],[0,6]),([7],[7]),([8],[8]),([8],[8]),([9,7,0,1,2,3,4,5,6,7,8,9],[9]),([10,11,0,1,2,3,4,5,6,7,8,9,10,11],[10])])
def trufflelaw08_TableFinds.B18:List Nat:=[0,0,2,0,14,30,62,127,255,511,511,1023,4095]
theorem trufflelaw08_TableFinds.tab18:rtab .any (opsOf Tryz.f7 18)=trufflelaw08_TableFinds.T18:=by kernel_rfl
theorem trufflelaw08_TableFinds.bits18:waitsOk trufflelaw08_TableFinds.T18.2 trufflelaw08_TableFinds.B18=true:=by kernel_rfl
set_option maxHeartbeats 8000000 in
set_option maxRecDepth 100000 in
theorem trufflelaw08_TableFinds.calls (k:Nat) (A0_0:Option Addr) (c0_0:Nat) (l0_0:List (S57)) (A0_1:Option Addr) (c0_1:Nat) (l0_1:List (S119)) (a1:Int) (a2:ByteArray) (a3:Int) (w:World) (hG:GInv w) (hr0_0:Kd.C k57 w A0_0 l0_0.length l0_0) (hc0_0:l0_0.length≤c0_0) (hr0_1:Kd.C k119 w A0_1 l0_1.length l0_1) (hc0_1:l0_1.length≤c0_1) (h:trufflelaw08_TableFinds.f k l0_0 l0_1 a1 a2 a3=some true) :
  Calls Tryz.prog 7 #[.agg #[.slice A0_0 l0_0.length c0_0,.slice A0_1 l0_1.length c0_1],.int .i64 a1,.string a2,.int .i64 a3] w fun e w'=>e = .returned (.bool true)∧Below w.heap.size w w':=by
 have hu46:=Tryz.underlying46
 have hu51:=Tryz.underlying51
 have HR0_0:=Y0 hr0_0
 have HC0_0:=Y0 hc0_0
 clear hr0_0 hc0_0
 have HR0_1:=Y0 hr0_1
 have HC0_1:=Y0 hc0_1
 clear hr0_1 hc0_1
 have HB:=Y0 (Below.refl w.heap.size w)
 have H:((trufflelaw08_awake.f).bind fun t373=>((truffleref08_Few.f k l0_0 l0_1).bind fun t374=>(if t373=true then (trufflelaw08_TableFinds.j0 k a1 a2 a3 t373 (!t374) l0_0 l0_1) else (trufflelaw08_TableFinds.j0 k a1 a2 a3 t373 true l0_0 l0_1))))=some true:=h
 clear h
 replace H:=Y17.mp H
 obtain ⟨t373,A50,H⟩:=H
 try dsimp only at H
 have A5:=Y0 A50
 clear A50
 replace H:=Y17.mp H
 obtain ⟨t374,A60,H⟩:=H
 try dsimp only at H
 have A6:=Y0 A60
 clear A60
 have HC7:=Y0 H
 clear H
 go_enter Tryz.func7,Tryz.ntmps7
 go_upto_region 3 with (first|((with_reducible refine gate_dst (N:=4) rfl ?_);(try (refine gate_guard (by rfl) ?_;dsimp only));refine box_event ?hg (N:=4) ?hd (cs:=#[.slice A0_0 l0_0.length c0_0,.slice A0_1 l0_1.length c0_1]) (t:=46) ?hr ?_;(case hd=>rfl);(case hg=>rfl);(case hr=>first|(go_simp;done)|(go_simp;rfl));intro gb372 hg w8 hbox hb;have n0_:=Y0 (below_step (by repeat (with_reducible first|exact HB.out|apply Y3|apply Y1|apply Y2)) hb);have n1_:=Y0 (hbox);have n2_:=Y0 ((by rw [hg];exact (below_size (by repeat (with_reducible first|exact HB.out|apply Y3|apply Y1|apply Y2))):w.heap.size≤gb372));have n3_:=Y0 ((by rw [hg];exact (below_size (by repeat (with_reducible first|exact HB.out|apply Y3|apply Y1|apply Y2))):w.heap.size≤gb372));clear HB;have HB:=n0_;have BK372:=n1_;have GW372:=n2_;have GE372:=n3_;clear n0_ n1_ n2_ n3_;clear hb hbox hg)|((with_reducible refine gate_callee (f:=16) rfl ?_);refine goesL_ (some 22) rfl rfl Tryz.func16 (by kernel_rfl) rfl #[] rfl (by (try simp only [List.map_toArray,List.map_cons,List.map_nil]);first|done|rfl|(simp only [List.length_drop,List.length_take];rfl)) ?_;(with_reducible refine (trufflelaw08_awake.calls  t373 _ ?side1 A5.out).mono ?_);(case side1=>exact hG.below (by repeat (with_reducible first|exact HB.out|apply Y3|apply Y1|apply Y2|refine Y4 ?_ GE372.out)));rintro e w9 ⟨rfl,hb⟩;refine ⟨_,rfl,?_⟩;have n0_:=Y0 (blk_below (g:=gb372) (o:=.cells #[.slice A0_0 l0_0.length c0_0,.slice A0_1 l0_1.length c0_1] 46 (0,0)) (by (with_reducible repeat first|apply Y11|apply Y13|apply Y12);exact BK372.out) hb);have n1_:=Y0 (below_step (by repeat (with_reducible first|exact HB.out|apply Y3|apply Y1|apply Y2|refine Y4 ?_ GE372.out)) hb);clear BK372;clear HB;have BK372:=n0_;have HB:=n1_;clear n0_ n1_;(try clear hb);(try clear hb2);(try clear hk);(try clear hi);have ⟨hcz10_0,hcz10_1,hfz10_0,hfz10_1⟩:=sq_box2 BK372.out)|((with_reducible refine gate_callee (f:=22) rfl ?_);refine goesL_ (some 24) rfl rfl Tryz.func22 (by kernel_rfl) rfl #[.agg #[.slice A0_0 l0_0.length c0_0,.slice A0_1 l0_1.length c0_1]] rfl (by (try simp only [List.map_toArray,List.map_cons,List.map_nil]);first|done|rfl|(simp only [List.length_drop,List.length_take];rfl)) ?_;(with_reducible refine (truffleref08_Few.calls k _ _ l0_0 _ _ l0_1 t374 _ ?side1 ?side2 ?side3 ?side4 A6.out).mono ?_);(case side1=>repeat (first|exact (Kd.C_below HR0_0.out HB.out)|(with_reducible refine Y8 ?_ _)|(with_reducible refine Kd.C_drewN ?_ _)|(with_reducible refine Kd.C_drew ?_)));(case side2=>exact HC0_0.out);(case side3=>repeat (first|exact (Kd.C_below HR0_1.out HB.out)|(with_reducible refine Y8 ?_ _)|(with_reducible refine Kd.C_drewN ?_ _)|(with_reducible refine Kd.C_drew ?_)));(case side4=>exact HC0_1.out);rintro e w11 ⟨rfl,hb⟩;refine ⟨_,rfl,?_⟩;have n0_:=Y0 (blk_below (g:=gb372) (o:=.cells #[.slice A0_0 l0_0.length c0_0,.slice A0_1 l0_1.length c0_1] 46 (0,0)) (by (with_reducible repeat first|apply Y11|apply Y13|apply Y12);exact BK372.out) hb);have n1_:=Y0 (below_step (by repeat (with_reducible first|exact HB.out|apply Y3|apply Y1|apply Y2|refine Y4 ?_ GE372.out)) hb);clear BK372;clear HB;have BK372:=n0_;have HB:=n1_;clear n0_ n1_;(try clear hb);(try clear hb2);(try clear hk);(try clear hi)))
 (try simp only [Act.put,Y14,Y15,Y16])
 go_cut [30] (fun v30 wc=>∃ (kq:Nat) (x30_6:Bool),v30 = .bool x30_6∧Aside0 (trufflelaw08_TableFinds.j0 kq a1 a2 a3 t373 x30_6 l0_0 l0_1=some true)∧Aside0 (kq≤k)∧Aside0 (wc.heap[gb372]?=some (.cells #[(.slice A0_0 l0_0.length c0_0),(.slice A0_1 l0_1.length c0_1)] 46 (0,0)))∧Aside0 (Below w.heap.size w wc))
 case first =>
  have H:=HC7.out
  clear HC7
  by_cases c12:t373=true
  ·subst c12
   rw [if_pos rfl] at H
   have H':=Y0 H
   clear H
   go_wp2
   go_meet
   case rel=>exact ⟨_,(!t374),(by first|rfl|(simp;done)|(simp [*];done)),H',⟨by first|omega|exact Nat.le_refl _⟩,⟨by (with_reducible repeat first|apply Y11|apply Y13|apply Y12);exact BK372.out⟩,⟨by repeat (with_reducible first|exact HB.out|apply Y3|apply Y1|apply Y2|refine Y4 ?_ GE372.out)⟩⟩
  replace c12:=Bool.eq_false_iff.mpr c12
  subst c12
  rw [if_neg (show ¬ (false=true) by decide)] at H
  have H':=Y0 H
  clear H
  go_wp2
  go_meet
  case rel=>exact ⟨_,(true),(by first|rfl|(simp;done)|(simp [*];done)),H',⟨by first|omega|exact Nat.le_refl _⟩,⟨by (with_reducible repeat first|apply Y11|apply Y13|apply Y12);exact BK372.out⟩,⟨by repeat (with_reducible first|exact HB.out|apply Y3|apply Y1|apply Y2|refine Y4 ?_ GE372.out)⟩⟩
 case rest =>
  clear HC7
  obtain ⟨kq,x30_6,rfl,HA,HJ6,BK372,HB⟩:=hcut
  cases kq with
  | zero=>exact absurd HA.out (by simp [trufflelaw08_TableFinds.j0])
  | succ kj6 =>
   have H:=HA.out
   clear HA
   simp only [trufflelaw08_TableFinds.j0] at H
   by_cases c13:x30_6=true
   ·subst c13
    rw [if_pos rfl] at H
    have hv_:=Option.some.inj H
    go_wp2
    go_ret
    exact ⟨by first|rfl|(rw [hv_];done)|(simp [hv_];done)|(simp [← hv_];done)|(simp [] <;> rfl)|(simp [*] <;> rfl),by repeat (with_reducible first|exact HB.out|apply Y3|apply Y1|apply Y2|refine Y4 ?_ GE372.out)⟩
   replace c13:=Bool.eq_false_iff.mpr c13
   subst c13
   rw [if_neg (show ¬ (false=true) by decide)] at H
   replace H:=Y17.mp H
   obtain ⟨⟨t375,t376,t377,t378,t379,t380,t381,t382⟩,A140,H⟩:=H
   try dsimp only at H
   have A14:=Y0 A140
   clear A140
   replace H:=Y17.mp H
   obtain ⟨⟨t384,t385,t386,t387,t388,t389,t390,t391⟩,A150,H⟩:=H
   try dsimp only at H
   have A15:=Y0 A150
   clear A150
   have HC16:=Y0 H
   clear H
   have ⟨hcz17_0,hcz17_1,hfz17_0,hfz17_1⟩:=sq_box2 BK372.out
   go_upto_region 7 with (first|((with_reducible refine gate_callee (f:=20) rfl ?_);refine goesL_ (some 36) rfl rfl Tryz.func20 (by kernel_rfl) rfl #[.agg #[.slice A0_0 l0_0.length c0_0,.slice A0_1 l0_1.length c0_1],.int .i64 a1,.string a2] rfl (by (try simp only [List.map_toArray,List.map_cons,List.map_nil]);first|done|rfl|(simp only [List.length_drop,List.length_take];rfl)) ?_;(with_reducible refine (table_Find.calls _ _ l0_0 _ _ l0_1 a1 a2 t375 t376 t377 t378 t379 t380 t381 t382 _ ?side1 ?side2 ?side3 ?side4 A14.out).mono ?_);(case side1=>repeat (first|exact (Kd.C_below HR0_0.out HB.out)|(with_reducible refine Y8 ?_ _)|(with_reducible refine Kd.C_drewN ?_ _)|(with_reducible refine Kd.C_drew ?_)));(case side2=>exact HC0_0.out);(case side3=>repeat (first|exact (Kd.C_below HR0_1.out HB.out)|(with_reducible refine Y8 ?_ _)|(with_reducible refine Kd.C_drewN ?_ _)|(with_reducible refine Kd.C_drew ?_)));(case side4=>exact HC0_1.out);rintro e w18 ⟨rfl,hb⟩;refine ⟨_,rfl,?_⟩;have n0_:=Y0 (blk_below (g:=gb372) (o:=.cells #[.slice A0_0 l0_0.length c0_0,.slice A0_1 l0_1.length c0_1] 46 (0,0)) (by (with_reducible repeat first|apply Y11|apply Y13|apply Y12);exact BK372.out) hb);have n1_:=Y0 (below_step (by repeat (with_reducible first|exact HB.out|apply Y3|apply Y1|apply Y2|refine Y4 ?_ GE372.out)) hb);clear BK372;clear HB;have BK372:=n0_;have HB:=n1_;clear n0_ n1_;(try clear hb);(try clear hb2);(try clear hk);(try clear hi))|((with_reducible refine gate_dst (N:=11) rfl ?_);(try (refine gate_guard (by rfl) ?_;dsimp only));refine box_event ?hg (N:=11) ?hd (cs:=#[.int .i64 0,.string (⟨#[]⟩:ByteArray),.int .i64 0,.int .i64 0,.bool false,.int .i64 0,.int .i64 0]) (t:=51) ?hr ?_;(case hd=>rfl);(case hg=>rfl);(case hr=>first|(go_simp;done)|(go_simp;rfl));intro gb383 hg w19 hbox hb;have n0_:=Y0 (blk_below (g:=gb372) (o:=.cells #[.slice A0_0 l0_0.length c0_0,.slice A0_1 l0_1.length c0_1] 46 (0,0)) (by (with_reducible repeat first|apply Y11|apply Y13|apply Y12);exact BK372.out) hb);have n1_:=Y0 (below_step (by repeat (with_reducible first|exact HB.out|apply Y3|apply Y1|apply Y2|refine Y4 ?_ GE372.out)) hb);have n2_:=Y0 (hbox);have n3_:=Y0 ((by rw [hg];exact (below_size (by repeat (with_reducible first|exact HB.out|apply Y3|apply Y1|apply Y2|refine Y4 ?_ GE372.out))):w.heap.size≤gb383));have n4_:=Y0 ((by rw [hg];exact (below_size (by repeat (with_reducible first|exact HB.out|apply Y3|apply Y1|apply Y2|refine Y4 ?_ GE372.out))):w.heap.size≤gb383));have n5_:=Y0 ((by rw [hg];exact Nat.ne_of_lt (blk_lt (g:=gb372) (o:=.cells #[.slice A0_0 l0_0.length c0_0,.slice A0_1 l0_1.length c0_1] 46 (0,0)) (by (with_reducible repeat first|apply Y11|apply Y13|apply Y12);exact BK372.out)):gb372≠gb383));have n6_:=Y0 ((by rw [hg];exact Nat.ne_of_gt (blk_lt (g:=gb372) (o:=.cells #[.slice A0_0 l0_0.length c0_0,.slice A0_1 l0_1.length c0_1] 46 (0,0)) (by (with_reducible repeat first|apply Y11|apply Y13|apply Y12);exact BK372.out)):gb383≠gb372));clear BK372;clear HB;have BK372:=n0_;have HB:=n1_;have BK383:=n2_;have GW383:=n3_;have GE383:=n4_;have NB372_383:=n5_;have NB383_372:=n6_;clear n0_ n1_ n2_ n3_ n4_ n5_ n6_;clear hb hbox hg;have hnb20:=NB383_372.out;have hnc20:=NB372_383.out;have ⟨hcz21_0,hcz21_1,hcz21_2,hcz21_3,hcz21_4,hcz21_5,hcz21_6,hfz21_0,hfz21_1,hfz21_2,hfz21_3,hfz21_4,hfz21_5,hfz21_6⟩:=sq_box7 BK383.out;have ⟨hcz22_0,hcz22_1,hfz22_0,hfz22_1⟩:=sq_box2 BK372.out)|((with_reducible refine gate_callee (f:=21) rfl ?_);refine goesL_ (some 43) rfl rfl Tryz.func21 (by kernel_rfl) rfl #[.agg #[.slice A0_0 l0_0.length c0_0,.slice A0_1 l0_1.length c0_1],.int .i64 a1,.int .i64 a3] rfl (by (try simp only [List.map_toArray,List.map_cons,List.map_nil]);first|done|rfl|(simp only [List.length_drop,List.length_take];rfl)) ?_;(with_reducible refine (table_By.calls _ _ l0_0 _ _ l0_1 a1 a3 t384 t385 t386 t387 t388 t389 t390 t391 _ ?side1 ?side2 ?side3 ?side4 A15.out).mono ?_);(case side1=>exact Kd.C_below HR0_0.out (by repeat (with_reducible first|exact HB.out|apply Y3|apply Y1|apply Y2|refine Y4 ?_ GE372.out|refine Y4 ?_ GE383.out)));(case side2=>exact HC0_0.out);(case side3=>exact Kd.C_below HR0_1.out (by repeat (with_reducible first|exact HB.out|apply Y3|apply Y1|apply Y2|refine Y4 ?_ GE372.out|refine Y4 ?_ GE383.out)));(case side4=>exact HC0_1.out);rintro e w23 ⟨rfl,hb⟩;refine ⟨_,rfl,?_⟩;have n0_:=Y0 (blk_below (g:=gb372) (o:=.cells #[.slice A0_0 l0_0.length c0_0,.slice A0_1 l0_1.length c0_1] 46 (0,0)) (by (with_reducible repeat first|apply Y11|apply Y13|apply Y12);refine blk_far ?_ NB372_383.out _;(with_reducible repeat first|apply Y11|apply Y13|apply Y12);refine blk_far ?_ NB372_383.out _;(with_reducible repeat first|apply Y11|apply Y13|apply Y12);refine blk_far ?_ NB372_383.out _;(with_reducible repeat first|apply Y11|apply Y13|apply Y12);refine blk_far ?_ NB372_383.out _;(with_reducible repeat first|apply Y11|apply Y13|apply Y12);refine blk_far ?_ NB372_383.out _;(with_reducible repeat first|apply Y11|apply Y13|apply Y12);refine blk_far ?_ NB372_383.out _;(with_reducible repeat first|apply Y11|apply Y13|apply Y12);refine blk_far ?_ NB372_383.out _;(with_reducible repeat first|apply Y11|apply Y13|apply Y12);exact BK372.out) hb);have n1_:=Y0 (blk_below (g:=gb383) (o:=.cells #[.int .i64 t375,.string t376,.int .i64 t377,.int .i64 t378,.bool t379,.int .i64 t380,.int .i64 t381] 51 (0,0)) (by (with_reducible repeat first|apply Y11|apply Y13|apply Y12);refine blk_put (cs:=#[.int .i64 t375,.string t376,.int .i64 t377,.int .i64 t378,.bool t379,.int .i64 t380,.int .i64 0]) ?_ 6 _ rfl;(with_reducible repeat first|apply Y11|apply Y13|apply Y12);refine blk_put (cs:=#[.int .i64 t375,.string t376,.int .i64 t377,.int .i64 t378,.bool t379,.int .i64 0,.int .i64 0]) ?_ 5 _ rfl;(with_reducible repeat first|apply Y11|apply Y13|apply Y12);refine blk_put (cs:=#[.int .i64 t375,.string t376,.int .i64 t377,.int .i64 t378,.bool false,.int .i64 0,.int .i64 0]) ?_ 4 _ rfl;(with_reducible repeat first|apply Y11|apply Y13|apply Y12);refine blk_put (cs:=#[.int .i64 t375,.string t376,.int .i64 t377,.int .i64 0,.bool false,.int .i64 0,.int .i64 0]) ?_ 3 _ rfl;(with_reducible repeat first|apply Y11|apply Y13|apply Y12);refine blk_put (cs:=#[.int .i64 t375,.string t376,.int .i64 0,.int .i64 0,.bool false,.int .i64 0,.int .i64 0]) ?_ 2 _ rfl;(with_reducible repeat first|apply Y11|apply Y13|apply Y12);refine blk_put (cs:=#[.int .i64 t375,.string (⟨#[]⟩:ByteArray),.int .i64 0,.int .i64 0,.bool false,.int .i64 0,.int .i64 0]) ?_ 1 _ rfl;(with_reducible repeat first|apply Y11|apply Y13|apply Y12);refine blk_put (cs:=#[.int .i64 0,.string (⟨#[]⟩:ByteArray),.int .i64 0,.int .i64 0,.bool false,.int .i64 0,.int .i64 0]) ?_ 0 _ rfl;(with_reducible repeat first|apply Y11|apply Y13|apply Y12);exact BK383.out) hb);have n2_:=Y0 (below_step (by repeat (with_reducible first|exact HB.out|apply Y3|apply Y1|apply Y2|refine Y4 ?_ GE372.out|refine Y4 ?_ GE383.out)) hb);clear BK372;clear BK383;clear HB;have BK372:=n0_;have BK383:=n1_;have HB:=n2_;clear n0_ n1_ n2_;(try clear hb);(try clear hb2);(try clear hk);(try clear hi))|((with_reducible refine gate_dst (N:=13) rfl ?_);(try (refine gate_guard (by rfl) ?_;dsimp only));refine box_event ?hg (N:=13) ?hd (cs:=#[.int .i64 0,.string (⟨#[]⟩:ByteArray),.int .i64 0,.int .i64 0,.bool false,.int .i64 0,.int .i64 0]) (t:=51) ?hr ?_;(case hd=>rfl);(case hg=>rfl);(case hr=>first|(go_simp;done)|(go_simp;rfl));intro gb392 hg w24 hbox hb;have n0_:=Y0 (blk_below (g:=gb372) (o:=.cells #[.slice A0_0 l0_0.length c0_0,.slice A0_1 l0_1.length c0_1] 46 (0,0)) (by (with_reducible repeat first|apply Y11|apply Y13|apply Y12);exact BK372.out) hb);have n1_:=Y0 (blk_below (g:=gb383) (o:=.cells #[.int .i64 t375,.string t376,.int .i64 t377,.int .i64 t378,.bool t379,.int .i64 t380,.int .i64 t381] 51 (0,0)) (by (with_reducible repeat first|apply Y11|apply Y13|apply Y12);exact BK383.out) hb);have n2_:=Y0 (below_step (by repeat (with_reducible first|exact HB.out|apply Y3|apply Y1|apply Y2|refine Y4 ?_ GE372.out|refine Y4 ?_ GE383.out)) hb);have n3_:=Y0 (hbox);have n4_:=Y0 ((by rw [hg];exact (below_size (by repeat (with_reducible first|exact HB.out|apply Y3|apply Y1|apply Y2|refine Y4 ?_ GE372.out|refine Y4 ?_ GE383.out))):w.heap.size≤gb392));have n5_:=Y0 ((by rw [hg];exact (below_size (by repeat (with_reducible first|exact HB.out|apply Y3|apply Y1|apply Y2|refine Y4 ?_ GE372.out|refine Y4 ?_ GE383.out))):w.heap.size≤gb392));have n6_:=Y0 ((by rw [hg];exact Nat.ne_of_lt (blk_lt (g:=gb372) (o:=.cells #[.slice A0_0 l0_0.length c0_0,.slice A0_1 l0_1.length c0_1] 46 (0,0)) (by (with_reducible repeat first|apply Y11|apply Y13|apply Y12);exact BK372.out)):gb372≠gb392));have n7_:=Y0 ((by rw [hg];exact Nat.ne_of_gt (blk_lt (g:=gb372) (o:=.cells #[.slice A0_0 l0_0.length c0_0,.slice A0_1 l0_1.length c0_1] 46 (0,0)) (by (with_reducible repeat first|apply Y11|apply Y13|apply Y12);exact BK372.out)):gb392≠gb372));have n8_:=Y0 ((by rw [hg];exact Nat.ne_of_lt (blk_lt (g:=gb383) (o:=.cells #[.int .i64 t375,.string t376,.int .i64 t377,.int .i64 t378,.bool t379,.int .i64 t380,.int .i64 t381] 51 (0,0)) (by (with_reducible repeat first|apply Y11|apply Y13|apply Y12);exact BK383.out)):gb383≠gb392));have n9_:=Y0 ((by rw [hg];exact Nat.ne_of_gt (blk_lt (g:=gb383) (o:=.cells #[.int .i64 t375,.string t376,.int .i64 t377,.int .i64 t378,.bool t379,.int .i64 t380,.int .i64 t381] 51 (0,0)) (by (with_reducible repeat first|apply Y11|apply Y13|apply Y12);exact BK383.out)):gb392≠gb383));clear BK372;clear BK383;clear HB;have BK372:=n0_;have BK383:=n1_;have HB:=n2_;have BK392:=n3_;have GW392:=n4_;have GE392:=n5_;have NB372_392:=n6_;have NB392_372:=n7_;have NB383_392:=n8_;have NB392_383:=n9_;clear n0_ n1_ n2_ n3_ n4_ n5_ n6_ n7_ n8_ n9_;clear hb hbox hg;have hnb25:=NB392_372.out;have hnc25:=NB372_392.out;have hnb26:=NB392_383.out;have hnc26:=NB383_392.out;have ⟨hcz27_0,hcz27_1,hcz27_2,hcz27_3,hcz27_4,hcz27_5,hcz27_6,hfz27_0,hfz27_1,hfz27_2,hfz27_3,hfz27_4,hfz27_5,hfz27_6⟩:=sq_box7 BK392.out))
   (try simp only [Act.put,Y14,Y15,Y16])
   go_cut [79] (fun v79 wc=>∃ (kq:Nat) (x79_15:Bool),v79 = .bool x79_15∧Aside0 (trufflelaw08_TableFinds.j1 kq a1 x79_15 l0_0 l0_1=some true)∧Aside0 (kq≤kj6)∧Aside0 (wc.heap[gb372]?=some (.cells #[(.slice A0_0 l0_0.length c0_0),(.slice A0_1 l0_1.length c0_1)] 46 (0,0)))∧Aside0 (wc.heap[gb383]?=some (.cells #[.int .i64 t375,.string t376,.int .i64 t377,.int .i64 t378,.bool t379,.int .i64 t380,.int .i64 t381] 51 (0,0)))∧Aside0 (wc.heap[gb392]?=some (.cells #[.int .i64 t384,.string t385,.int .i64 t386,.int .i64 t387,.bool t388,.int .i64 t389,.int .i64 t390] 51 (0,0)))∧Aside0 (Below w.heap.size w wc))
   case first =>
    have H:=HC16.out
    clear HC16
    by_cases c28:t382=true
    ·subst c28
     rw [if_pos rfl] at H
     by_cases c29:t376.toList=a2.toList
     rotate_left
     ·rw [if_neg c29] at H
      have c29b0:(t376.toList == a2.toList)=false:=beq_eq_false_iff_ne.mpr c29
      have c29b1:(t376.toList != a2.toList)=true:=bne_iff_ne.mpr c29
      (first|rw [c29b0]|(simp only [];rw [c29b0])|skip)
      exact absurd H (by cases kj6 <;> simp [trufflelaw08_TableFinds.j1])
     rw [if_pos c29] at H
     have c29b0:(t376.toList == a2.toList)=true:=beq_iff_eq.mpr c29
     have c29b1:(t376.toList != a2.toList)=false:=bne_eq_false_iff_eq.mpr c29
     clear c29
     (first|rw [c29b0]|(simp only [];rw [c29b0])|skip)
     by_cases c30:t391=true
     rotate_left
     ·replace c30:=Bool.eq_false_iff.mpr c30
      subst c30
      rw [if_neg (show ¬ (false=true) by decide)] at H
      have H':=Y0 H
      clear H
      have hnb42:=NB383_372.out
      have hnc42:=NB372_383.out
      have hnb43:=NB383_392.out
      have hnc43:=NB392_383.out
      have ⟨hcz44_0,hcz44_1,hcz44_2,hcz44_3,hcz44_4,hcz44_5,hcz44_6,hfz44_0,hfz44_1,hfz44_2,hfz44_3,hfz44_4,hfz44_5,hfz44_6⟩:=sq_box7 BK383.out
      have hnb45:=NB392_372.out
      have hnc45:=NB372_392.out
      have ⟨hcz46_0,hcz46_1,hcz46_2,hcz46_3,hcz46_4,hcz46_5,hcz46_6,hfz46_0,hfz46_1,hfz46_2,hfz46_3,hfz46_4,hfz46_5,hfz46_6⟩:=sq_box7 BK392.out
      go_wp2
      go_meet
      case rel=>exact ⟨_,((!(t384 == 0) || (!(t385.toList == ([]:List UInt8)) || (!(t386 == 0) || (!(t387 == 0) || (t388 || (!(t389 == 0) || (!(t390 == 0))))))))),(by first|rfl|(simp;done)|(simp [*];done)),H',⟨by have:=HJ6.out;first|omega|exact Nat.le_refl _⟩,⟨by (with_reducible repeat first|apply Y11|apply Y13|apply Y12);refine blk_far ?_ NB372_392.out _;(with_reducible repeat first|apply Y11|apply Y13|apply Y12);refine blk_far ?_ NB372_392.out _;(with_reducible repeat first|apply Y11|apply Y13|apply Y12);refine blk_far ?_ NB372_392.out _;(with_reducible repeat first|apply Y11|apply Y13|apply Y12);refine blk_far ?_ NB372_392.out _;(with_reducible repeat first|apply Y11|apply Y13|apply Y12);refine blk_far ?_ NB372_392.out _;(with_reducible repeat first|apply Y11|apply Y13|apply Y12);refine blk_far ?_ NB372_392.out _;(with_reducible repeat first|apply Y11|apply Y13|apply Y12);refine blk_far ?_ NB372_392.out _;(with_reducible repeat first|apply Y11|apply Y13|apply Y12);exact BK372.out⟩,⟨by (with_reducible repeat first|apply Y11|apply Y13|apply Y12);refine blk_far ?_ NB383_392.out _;(with_reducible repeat first|apply Y11|apply Y13|apply Y12);refine blk_far ?_ NB383_392.out _;(with_reducible repeat first|apply Y11|apply Y13|apply Y12);refine blk_far ?_ NB383_392.out _;(with_reducible repeat first|apply Y11|apply Y13|apply Y12);refine blk_far ?_ NB383_392.out _;(with_reducible repeat first|apply Y11|apply Y13|apply Y12);refine blk_far ?_ NB383_392.out _;(with_reducible repeat first|apply Y11|apply Y13|apply Y12);refine blk_far ?_ NB383_392.out _;(with_reducible repeat first|apply Y11|apply Y13|apply Y12);refine blk_far ?_ NB383_392.out _;(with_reducible repeat first|apply Y11|apply Y13|apply Y12);exact BK383.out⟩,⟨by (with_reducible repeat first|apply Y11|apply Y13|apply Y12);refine blk_put (cs:=#[.int .i64 t384,.string t385,.int .i64 t386,.int .i64 t387,.bool t388,.int .i64 t389,.int .i64 0]) ?_ 6 _ rfl;(with_reducible repeat first|apply Y11|apply Y13|apply Y12);refine blk_put (cs:=#[.int .i64 t384,.string t385,.int .i64 t386,.int .i64 t387,.bool t388,.int .i64 0,.int .i64 0]) ?_ 5 _ rfl;(with_reducible repeat first|apply Y11|apply Y13|apply Y12);refine blk_put (cs:=#[.int .i64 t384,.string t385,.int .i64 t386,.int .i64 t387,.bool false,.int .i64 0,.int .i64 0]) ?_ 4 _ rfl;(with_reducible repeat first|apply Y11|apply Y13|apply Y12);refine blk_put (cs:=#[.int .i64 t384,.string t385,.int .i64 t386,.int .i64 0,.bool false,.int .i64 0,.int .i64 0]) ?_ 3 _ rfl;(with_reducible repeat first|apply Y11|apply Y13|apply Y12);refine blk_put (cs:=#[.int .i64 t384,.string t385,.int .i64 0,.int .i64 0,.bool false,.int .i64 0,.int .i64 0]) ?_ 2 _ rfl;(with_reducible repeat first|apply Y11|apply Y13|apply Y12);refine blk_put (cs:=#[.int .i64 t384,.string (⟨#[]⟩:ByteArray),.int .i64 0,.int .i64 0,.bool false,.int .i64 0,.int .i64 0]) ?_ 1 _ rfl;(with_reducible repeat first|apply Y11|apply Y13|apply Y12);refine blk_put (cs:=#[.int .i64 0,.string (⟨#[]⟩:ByteArray),.int .i64 0,.int .i64 0,.bool false,.int .i64 0,.int .i64 0]) ?_ 0 _ rfl;(with_reducible repeat first|apply Y11|apply Y13|apply Y12);exact BK392.out⟩,⟨by repeat (with_reducible first|exact HB.out|apply Y3|apply Y1|apply Y2|refine Y4 ?_ GE372.out|refine Y4 ?_ GE383.out|refine Y4 ?_ GE392.out)⟩⟩
     subst c30
     rw [if_pos rfl] at H
     by_cases c31:t384=a3
     rotate_left
     ·rw [if_neg c31] at H
      have c31b0:(t384 == a3)=false:=beq_eq_false_iff_ne.mpr c31
      have c31b1:(t384 != a3)=true:=bne_iff_ne.mpr c31
      exact absurd H (by cases kj6 <;> simp [trufflelaw08_TableFinds.j1])
     rw [if_pos c31] at H
     have c31b0:(t384 == a3)=true:=beq_iff_eq.mpr c31
     have c31b1:(t384 != a3)=false:=bne_eq_false_iff_eq.mpr c31
     clear c31
     have H':=Y0 H
     clear H
     have hnb32:=NB383_372.out
     have hnc32:=NB372_383.out
     have hnb33:=NB383_392.out
     have hnc33:=NB392_383.out
     have ⟨hcz34_0,hcz34_1,hcz34_2,hcz34_3,hcz34_4,hcz34_5,hcz34_6,hfz34_0,hfz34_1,hfz34_2,hfz34_3,hfz34_4,hfz34_5,hfz34_6⟩:=sq_box7 BK383.out
     have hnb35:=NB392_372.out
     have hnc35:=NB372_392.out
     have ⟨hcz36_0,hcz36_1,hcz36_2,hcz36_3,hcz36_4,hcz36_5,hcz36_6,hfz36_0,hfz36_1,hfz36_2,hfz36_3,hfz36_4,hfz36_5,hfz36_6⟩:=sq_box7 BK392.out
     go_wp2
     go_meet
     case rel=>exact ⟨_,(false),(by first|rfl|(simp;done)|(simp [*];done)),H',⟨by have:=HJ6.out;first|omega|exact Nat.le_refl _⟩,⟨by (with_reducible repeat first|apply Y11|apply Y13|apply Y12);refine blk_far ?_ NB372_392.out _;(with_reducible repeat first|apply Y11|apply Y13|apply Y12);refine blk_far ?_ NB372_392.out _;(with_reducible repeat first|apply Y11|apply Y13|apply Y12);refine blk_far ?_ NB372_392.out _;(with_reducible repeat first|apply Y11|apply Y13|apply Y12);refine blk_far ?_ NB372_392.out _;(with_reducible repeat first|apply Y11|apply Y13|apply Y12);refine blk_far ?_ NB372_392.out _;(with_reducible repeat first|apply Y11|apply Y13|apply Y12);refine blk_far ?_ NB372_392.out _;(with_reducible repeat first|apply Y11|apply Y13|apply Y12);refine blk_far ?_ NB372_392.out _;(with_reducible repeat first|apply Y11|apply Y13|apply Y12);exact BK372.out⟩,⟨by (with_reducible repeat first|apply Y11|apply Y13|apply Y12);refine blk_far ?_ NB383_392.out _;(with_reducible repeat first|apply Y11|apply Y13|apply Y12);refine blk_far ?_ NB383_392.out _;(with_reducible repeat first|apply Y11|apply Y13|apply Y12);refine blk_far ?_ NB383_392.out _;(with_reducible repeat first|apply Y11|apply Y13|apply Y12);refine blk_far ?_ NB383_392.out _;(with_reducible repeat first|apply Y11|apply Y13|apply Y12);refine blk_far ?_ NB383_392.out _;(with_reducible repeat first|apply Y11|apply Y13|apply Y12);refine blk_far ?_ NB383_392.out _;(with_reducible repeat first|apply Y11|apply Y13|apply Y12);refine blk_far ?_ NB383_392.out _;(with_reducible repeat first|apply Y11|apply Y13|apply Y12);exact BK383.out⟩,⟨by (with_reducible repeat first|apply Y11|apply Y13|apply Y12);refine blk_put (cs:=#[.int .i64 t384,.string t385,.int .i64 t386,.int .i64 t387,.bool t388,.int .i64 t389,.int .i64 0]) ?_ 6 _ rfl;(with_reducible repeat first|apply Y11|apply Y13|apply Y12);refine blk_put (cs:=#[.int .i64 t384,.string t385,.int .i64 t386,.int .i64 t387,.bool t388,.int .i64 0,.int .i64 0]) ?_ 5 _ rfl;(with_reducible repeat first|apply Y11|apply Y13|apply Y12);refine blk_put (cs:=#[.int .i64 t384,.string t385,.int .i64 t386,.int .i64 t387,.bool false,.int .i64 0,.int .i64 0]) ?_ 4 _ rfl;(with_reducible repeat first|apply Y11|apply Y13|apply Y12);refine blk_put (cs:=#[.int .i64 t384,.string t385,.int .i64 t386,.int .i64 0,.bool false,.int .i64 0,.int .i64 0]) ?_ 3 _ rfl;(with_reducible repeat first|apply Y11|apply Y13|apply Y12);refine blk_put (cs:=#[.int .i64 t384,.string t385,.int .i64 0,.int .i64 0,.bool false,.int .i64 0,.int .i64 0]) ?_ 2 _ rfl;(with_reducible repeat first|apply Y11|apply Y13|apply Y12);refine blk_put (cs:=#[.int .i64 t384,.string (⟨#[]⟩:ByteArray),.int .i64 0,.int .i64 0,.bool false,.int .i64 0,.int .i64 0]) ?_ 1 _ rfl;(with_reducible repeat first|apply Y11|apply Y13|apply Y12);refine blk_put (cs:=#[.int .i64 0,.string (⟨#[]⟩:ByteArray),.int .i64 0,.int .i64 0,.bool false,.int .i64 0,.int .i64 0]) ?_ 0 _ rfl;(with_reducible repeat first|apply Y11|apply Y13|apply Y12);exact BK392.out⟩,⟨by repeat (with_reducible first|exact HB.out|apply Y3|apply Y1|apply Y2|refine Y4 ?_ GE372.out|refine Y4 ?_ GE383.out|refine Y4 ?_ GE392.out)⟩⟩
    replace c28:=Bool.eq_false_iff.mpr c28
    subst c28
    rw [if_neg (show ¬ (false=true) by decide)] at H
    by_cases c50:t391=true
    rotate_left
    ·replace c50:=Bool.eq_false_iff.mpr c50
     subst c50
     rw [if_neg (show ¬ (false=true) by decide)] at H
     by_cases c66:(!(t375 == 0) || (!(t376.toList == ([]:List UInt8)) || (!(t377 == 0) || (!(t378 == 0) || (t379 || (!(t380 == 0) || (!(t381 == 0))))))))=true
     ·rw [if_pos c66] at H
      have c66b0:(!(t375 == 0) || (!(t376.toList == ([]:List UInt8)) || (!(t377 == 0) || (!(t378 == 0) || (t379 || (!(t380 == 0) || (!(t381 == 0))))))))=true:=c66
      have c66p:(t375=0∧t376.toList=[]∧t377=0∧t378=0∧t379=false∧t380=0∧t381=0)=False:=eq_false (fun h_=>by obtain ⟨h1_,h2_,h3_,h4_,h5_,h6_,h7_⟩:=h_;rw [h1_,h2_,h3_,h4_,h5_,h6_,h7_] at c66b0;cases c66b0)
      have c66q:(¬t375=0∨¬t376.toList=[]∨¬t377=0∨¬t378=0∨t379=true∨¬t380=0∨¬t381=0)=True:=by have h_:=c66b0;simp only [Bool.or_eq_true,Bool.or_eq_false_iff,Bool.not_eq_true',Bool.not_eq_false',beq_eq_false_iff_ne,beq_iff_eq,ne_eq] at h_;exact eq_true h_
      clear c66
      exact absurd H (by cases kj6 <;> simp [trufflelaw08_TableFinds.j1])
     rw [if_neg c66] at H
     have c66b0:(!(t375 == 0) || (!(t376.toList == ([]:List UInt8)) || (!(t377 == 0) || (!(t378 == 0) || (t379 || (!(t380 == 0) || (!(t381 == 0))))))))=false:=eq_false_of_ne_true c66
     have c66p:(t375=0∧t376.toList=[]∧t377=0∧t378=0∧t379=false∧t380=0∧t381=0)=True:=eq_true (by have h_:=c66b0;simp only [Bool.or_eq_false_iff,Bool.not_eq_false',beq_iff_eq] at h_;exact h_)
     have c66q:(¬t375=0∨¬t376.toList=[]∨¬t377=0∨¬t378=0∨t379=true∨¬t380=0∨¬t381=0)=False:=by have h_:=c66b0;simp only [Bool.or_eq_true,Bool.or_eq_false_iff,Bool.not_eq_true',Bool.not_eq_false',beq_eq_false_iff_ne,beq_iff_eq,ne_eq] at h_;obtain ⟨h1_,h2_,h3_,h4_,h5_,h6_,h7_⟩:=h_;simp [h1_,h2_,h3_,h4_,h5_,h6_,h7_]
     clear c66
     have H':=Y0 H
     clear H
     have hnb70:=NB383_372.out
     have hnc70:=NB372_383.out
     have hnb71:=NB383_392.out
     have hnc71:=NB392_383.out
     have ⟨hcz72_0,hcz72_1,hcz72_2,hcz72_3,hcz72_4,hcz72_5,hcz72_6,hfz72_0,hfz72_1,hfz72_2,hfz72_3,hfz72_4,hfz72_5,hfz72_6⟩:=sq_box7 BK383.out
     have hnb73:=NB392_372.out
     have hnc73:=NB372_392.out
     have ⟨hcz74_0,hcz74_1,hcz74_2,hcz74_3,hcz74_4,hcz74_5,hcz74_6,hfz74_0,hfz74_1,hfz74_2,hfz74_3,hfz74_4,hfz74_5,hfz74_6⟩:=sq_box7 BK392.out
     go_wp2
     go_meet
     case rel=>exact ⟨_,((!(t384 == 0) || (!(t385.toList == ([]:List UInt8)) || (!(t386 == 0) || (!(t387 == 0) || (t388 || (!(t389 == 0) || (!(t390 == 0))))))))),(by first|rfl|(simp;done)|(simp [*];done)),H',⟨by have:=HJ6.out;first|omega|exact Nat.le_refl _⟩,⟨by (with_reducible repeat first|apply Y11|apply Y13|apply Y12);refine blk_far ?_ NB372_392.out _;(with_reducible repeat first|apply Y11|apply Y13|apply Y12);refine blk_far ?_ NB372_392.out _;(with_reducible repeat first|apply Y11|apply Y13|apply Y12);refine blk_far ?_ NB372_392.out _;(with_reducible repeat first|apply Y11|apply Y13|apply Y12);refine blk_far ?_ NB372_392.out _;(with_reducible repeat first|apply Y11|apply Y13|apply Y12);refine blk_far ?_ NB372_392.out _;(with_reducible repeat first|apply Y11|apply Y13|apply Y12);refine blk_far ?_ NB372_392.out _;(with_reducible repeat first|apply Y11|apply Y13|apply Y12);refine blk_far ?_ NB372_392.out _;(with_reducible repeat first|apply Y11|apply Y13|apply Y12);exact BK372.out⟩,⟨by (with_reducible repeat first|apply Y11|apply Y13|apply Y12);refine blk_far ?_ NB383_392.out _;(with_reducible repeat first|apply Y11|apply Y13|apply Y12);refine blk_far ?_ NB383_392.out _;(with_reducible repeat first|apply Y11|apply Y13|apply Y12);refine blk_far ?_ NB383_392.out _;(with_reducible repeat first|apply Y11|apply Y13|apply Y12);refine blk_far ?_ NB383_392.out _;(with_reducible repeat first|apply Y11|apply Y13|apply Y12);refine blk_far ?_ NB383_392.out _;(with_reducible repeat first|apply Y11|apply Y13|apply Y12);refine blk_far ?_ NB383_392.out _;(with_reducible repeat first|apply Y11|apply Y13|apply Y12);refine blk_far ?_ NB383_392.out _;(with_reducible repeat first|apply Y11|apply Y13|apply Y12);exact BK383.out⟩,⟨by (with_reducible repeat first|apply Y11|apply Y13|apply Y12);refine blk_put (cs:=#[.int .i64 t384,.string t385,.int .i64 t386,.int .i64 t387,.bool t388,.int .i64 t389,.int .i64 0]) ?_ 6 _ rfl;(with_reducible repeat first|apply Y11|apply Y13|apply Y12);refine blk_put (cs:=#[.int .i64 t384,.string t385,.int .i64 t386,.int .i64 t387,.bool t388,.int .i64 0,.int .i64 0]) ?_ 5 _ rfl;(with_reducible repeat first|apply Y11|apply Y13|apply Y12);refine blk_put (cs:=#[.int .i64 t384,.string t385,.int .i64 t386,.int .i64 t387,.bool false,.int .i64 0,.int .i64 0]) ?_ 4 _ rfl;(with_reducible repeat first|apply Y11|apply Y13|apply Y12);refine blk_put (cs:=#[.int .i64 t384,.string t385,.int .i64 t386,.int .i64 0,.bool false,.int .i64 0,.int .i64 0]) ?_ 3 _ rfl;(with_reducible repeat first|apply Y11|apply Y13|apply Y12);refine blk_put (cs:=#[.int .i64 t384,.string t385,.int .i64 0,.int .i64 0,.bool false,.int .i64 0,.int .i64 0]) ?_ 2 _ rfl;(with_reducible repeat first|apply Y11|apply Y13|apply Y12);refine blk_put (cs:=#[.int .i64 t384,.string (⟨#[]⟩:ByteArray),.int .i64 0,.int .i64 0,.bool false,.int .i64 0,.int .i64 0]) ?_ 1 _ rfl;(with_reducible repeat first|apply Y11|apply Y13|apply Y12);refine blk_put (cs:=#[.int .i64 0,.string (⟨#[]⟩:ByteArray),.int .i64 0,.int .i64 0,.bool false,.int .i64 0,.int .i64 0]) ?_ 0 _ rfl;(with_reducible repeat first|apply Y11|apply Y13|apply Y12);exact BK392.out⟩,⟨by repeat (with_reducible first|exact HB.out|apply Y3|apply Y1|apply Y2|refine Y4 ?_ GE372.out|refine Y4 ?_ GE383.out|refine Y4 ?_ GE392.out)⟩⟩
    subst c50
    rw [if_pos rfl] at H
    by_cases c51:t384=a3
    rotate_left
    ·rw [if_neg c51] at H
     have c51b0:(t384 == a3)=false:=beq_eq_false_iff_ne.mpr c51
     have c51b1:(t384 != a3)=true:=bne_iff_ne.mpr c51
     exact absurd H (by cases kj6 <;> simp [trufflelaw08_TableFinds.j1])
    rw [if_pos c51] at H
    have c51b0:(t384 == a3)=true:=beq_iff_eq.mpr c51
    have c51b1:(t384 != a3)=false:=bne_eq_false_iff_eq.mpr c51
    clear c51
    by_cases c52:(!(t375 == 0) || (!(t376.toList == ([]:List UInt8)) || (!(t377 == 0) || (!(t378 == 0) || (t379 || (!(t380 == 0) || (!(t381 == 0))))))))=true
    ·rw [if_pos c52] at H
     have c52b0:(!(t375 == 0) || (!(t376.toList == ([]:List UInt8)) || (!(t377 == 0) || (!(t378 == 0) || (t379 || (!(t380 == 0) || (!(t381 == 0))))))))=true:=c52
     have c52p:(t375=0∧t376.toList=[]∧t377=0∧t378=0∧t379=false∧t380=0∧t381=0)=False:=eq_false (fun h_=>by obtain ⟨h1_,h2_,h3_,h4_,h5_,h6_,h7_⟩:=h_;rw [h1_,h2_,h3_,h4_,h5_,h6_,h7_] at c52b0;cases c52b0)
     have c52q:(¬t375=0∨¬t376.toList=[]∨¬t377=0∨¬t378=0∨t379=true∨¬t380=0∨¬t381=0)=True:=by have h_:=c52b0;simp only [Bool.or_eq_true,Bool.or_eq_false_iff,Bool.not_eq_true',Bool.not_eq_false',beq_eq_false_iff_ne,beq_iff_eq,ne_eq] at h_;exact eq_true h_
     clear c52
     exact absurd H (by cases kj6 <;> simp [trufflelaw08_TableFinds.j1])
    rw [if_neg c52] at H
    have c52b0:(!(t375 == 0) || (!(t376.toList == ([]:List UInt8)) || (!(t377 == 0) || (!(t378 == 0) || (t379 || (!(t380 == 0) || (!(t381 == 0))))))))=false:=eq_false_of_ne_true c52
    have c52p:(t375=0∧t376.toList=[]∧t377=0∧t378=0∧t379=false∧t380=0∧t381=0)=True:=eq_true (by have h_:=c52b0;simp only [Bool.or_eq_false_iff,Bool.not_eq_false',beq_iff_eq] at h_;exact h_)
    have c52q:(¬t375=0∨¬t376.toList=[]∨¬t377=0∨¬t378=0∨t379=true∨¬t380=0∨¬t381=0)=False:=by have h_:=c52b0;simp only [Bool.or_eq_true,Bool.or_eq_false_iff,Bool.not_eq_true',Bool.not_eq_false',beq_eq_false_iff_ne,beq_iff_eq,ne_eq] at h_;obtain ⟨h1_,h2_,h3_,h4_,h5_,h6_,h7_⟩:=h_;simp [h1_,h2_,h3_,h4_,h5_,h6_,h7_]
    clear c52
    have H':=Y0 H
    clear H
    have hnb58:=NB392_372.out
    have hnc58:=NB372_392.out
    have hnb59:=NB392_383.out
    have hnc59:=NB383_392.out
    have ⟨hcz60_0,hcz60_1,hcz60_2,hcz60_3,hcz60_4,hcz60_5,hcz60_6,hfz60_0,hfz60_1,hfz60_2,hfz60_3,hfz60_4,hfz60_5,hfz60_6⟩:=sq_box7 BK392.out
    have hnb61:=NB383_372.out
    have hnc61:=NB372_383.out
    have ⟨hcz62_0,hcz62_1,hcz62_2,hcz62_3,hcz62_4,hcz62_5,hcz62_6,hfz62_0,hfz62_1,hfz62_2,hfz62_3,hfz62_4,hfz62_5,hfz62_6⟩:=sq_box7 BK383.out
    go_wp2
    go_meet
    case rel=>exact ⟨_,(false),(by first|rfl|(simp;done)|(simp [*];done)),H',⟨by have:=HJ6.out;first|omega|exact Nat.le_refl _⟩,⟨by (with_reducible repeat first|apply Y11|apply Y13|apply Y12);refine blk_far ?_ NB372_392.out _;(with_reducible repeat first|apply Y11|apply Y13|apply Y12);refine blk_far ?_ NB372_392.out _;(with_reducible repeat first|apply Y11|apply Y13|apply Y12);refine blk_far ?_ NB372_392.out _;(with_reducible repeat first|apply Y11|apply Y13|apply Y12);refine blk_far ?_ NB372_392.out _;(with_reducible repeat first|apply Y11|apply Y13|apply Y12);refine blk_far ?_ NB372_392.out _;(with_reducible repeat first|apply Y11|apply Y13|apply Y12);refine blk_far ?_ NB372_392.out _;(with_reducible repeat first|apply Y11|apply Y13|apply Y12);refine blk_far ?_ NB372_392.out _;(with_reducible repeat first|apply Y11|apply Y13|apply Y12);exact BK372.out⟩,⟨by (with_reducible repeat first|apply Y11|apply Y13|apply Y12);refine blk_far ?_ NB383_392.out _;(with_reducible repeat first|apply Y11|apply Y13|apply Y12);refine blk_far ?_ NB383_392.out _;(with_reducible repeat first|apply Y11|apply Y13|apply Y12);refine blk_far ?_ NB383_392.out _;(with_reducible repeat first|apply Y11|apply Y13|apply Y12);refine blk_far ?_ NB383_392.out _;(with_reducible repeat first|apply Y11|apply Y13|apply Y12);refine blk_far ?_ NB383_392.out _;(with_reducible repeat first|apply Y11|apply Y13|apply Y12);refine blk_far ?_ NB383_392.out _;(with_reducible repeat first|apply Y11|apply Y13|apply Y12);refine blk_far ?_ NB383_392.out _;(with_reducible repeat first|apply Y11|apply Y13|apply Y12);exact BK383.out⟩,⟨by (with_reducible repeat first|apply Y11|apply Y13|apply Y12);refine blk_put (cs:=#[.int .i64 t384,.string t385,.int .i64 t386,.int .i64 t387,.bool t388,.int .i64 t389,.int .i64 0]) ?_ 6 _ rfl;(with_reducible repeat first|apply Y11|apply Y13|apply Y12);refine blk_put (cs:=#[.int .i64 t384,.string t385,.int .i64 t386,.int .i64 t387,.bool t388,.int .i64 0,.int .i64 0]) ?_ 5 _ rfl;(with_reducible repeat first|apply Y11|apply Y13|apply Y12);refine blk_put (cs:=#[.int .i64 t384,.string t385,.int .i64 t386,.int .i64 t387,.bool false,.int .i64 0,.int .i64 0]) ?_ 4 _ rfl;(with_reducible repeat first|apply Y11|apply Y13|apply Y12);refine blk_put (cs:=#[.int .i64 t384,.string t385,.int .i64 t386,.int .i64 0,.bool false,.int .i64 0,.int .i64 0]) ?_ 3 _ rfl;(with_reducible repeat first|apply Y11|apply Y13|apply Y12);refine blk_put (cs:=#[.int .i64 t384,.string t385,.int .i64 0,.int .i64 0,.bool false,.int .i64 0,.int .i64 0]) ?_ 2 _ rfl;(with_reducible repeat first|apply Y11|apply Y13|apply Y12);refine blk_put (cs:=#[.int .i64 t384,.string (⟨#[]⟩:ByteArray),.int .i64 0,.int .i64 0,.bool false,.int .i64 0,.int .i64 0]) ?_ 1 _ rfl;(with_reducible repeat first|apply Y11|apply Y13|apply Y12);refine blk_put (cs:=#[.int .i64 0,.string (⟨#[]⟩:ByteArray),.int .i64 0,.int .i64 0,.bool false,.int .i64 0,.int .i64 0]) ?_ 0 _ rfl;(with_reducible repeat first|apply Y11|apply Y13|apply Y12);exact BK392.out⟩,⟨by repeat (with_reducible first|exact HB.out|apply Y3|apply Y1|apply Y2|refine Y4 ?_ GE372.out|refine Y4 ?_ GE383.out|refine Y4 ?_ GE392.out)⟩⟩
   case rest =>
    clear HC16
    obtain ⟨kq,x79_15,rfl,HA,HJ15,BK372,BK383,BK392,HB⟩:=hcut
    cases kq with
    | zero=>exact absurd HA.out (by simp [trufflelaw08_TableFinds.j1])
    | succ kj15 =>
     have H:=HA.out
     clear HA
     simp only [trufflelaw08_TableFinds.j1] at H
     by_cases c75:x79_15=true
     ·subst c75
      rw [if_pos rfl] at H
      exact absurd (Option.some.inj H) Bool.false_ne_true
     replace c75:=Bool.eq_false_iff.mpr c75
     subst c75
     rw [if_neg (show ¬ (false=true) by decide)] at H
     have HC76:=Y0 H
     clear H
     go_upto_region 9 with (fail)
     go_cut [93] (fun v93 wc=>∃ (kq:Nat) (x93_75:Bool),v93 = .bool x93_75∧Aside0 (trufflelaw08_TableFinds.j2 kq a1 x93_75 l0_0 l0_1=some true)∧Aside0 (kq≤kj15)∧Aside0 (wc.heap[gb372]?=some (.cells #[(.slice A0_0 l0_0.length c0_0),(.slice A0_1 l0_1.length c0_1)] 46 (0,0)))∧Aside0 (wc.heap[gb383]?=some (.cells #[.int .i64 t375,.string t376,.int .i64 t377,.int .i64 t378,.bool t379,.int .i64 t380,.int .i64 t381] 51 (0,0)))∧Aside0 (wc.heap[gb392]?=some (.cells #[.int .i64 t384,.string t385,.int .i64 t386,.int .i64 t387,.bool t388,.int .i64 t389,.int .i64 t390] 51 (0,0)))∧Aside0 (Below w.heap.size w wc))
     case first =>
      have H:=HC76.out
      clear HC76
      replace H:=Y17.mp H
      obtain ⟨t393,A770,H⟩:=H
      try dsimp only at H
      have A77:=Y0 A770
      clear A770
      by_cases c78:t393=true
      rotate_left
      ·replace c78:=Bool.eq_false_iff.mpr c78
       subst c78
       rw [if_neg (show ¬ (false=true) by decide)] at H
       have H':=Y0 H
       clear H
       have hnb89:=NB372_383.out
       have hnc89:=NB383_372.out
       have hnb90:=NB372_392.out
       have hnc90:=NB392_372.out
       have ⟨hcz91_0,hcz91_1,hfz91_0,hfz91_1⟩:=sq_box2 BK372.out
       go_wp2_with (first|((with_reducible refine gate_callee (f:=19) rfl ?_);refine goesL_ (some 81) rfl rfl Tryz.func19 (by kernel_rfl) rfl #[.agg #[.slice A0_0 l0_0.length c0_0,.slice A0_1 l0_1.length c0_1]] rfl (by (try simp only [List.map_toArray,List.map_cons,List.map_nil]);first|done|rfl|(simp only [List.length_drop,List.length_take];rfl)) ?_;(with_reducible refine (table_May.calls _ _ l0_0 _ _ l0_1 false _ ?side1 ?side2 ?side3 ?side4 A77.out).mono ?_);(case side1=>repeat (first|exact (Kd.C_below HR0_0.out HB.out)|(with_reducible refine Y8 ?_ _)|(with_reducible refine Kd.C_drewN ?_ _)|(with_reducible refine Kd.C_drew ?_)));(case side2=>exact HC0_0.out);(case side3=>repeat (first|exact (Kd.C_below HR0_1.out HB.out)|(with_reducible refine Y8 ?_ _)|(with_reducible refine Kd.C_drewN ?_ _)|(with_reducible refine Kd.C_drew ?_)));(case side4=>exact HC0_1.out);rintro e w92 ⟨rfl,hb⟩;refine ⟨_,rfl,?_⟩;have n0_:=Y0 (blk_below (g:=gb372) (o:=.cells #[.slice A0_0 l0_0.length c0_0,.slice A0_1 l0_1.length c0_1] 46 (0,0)) (by (with_reducible repeat first|apply Y11|apply Y13|apply Y12);exact BK372.out) hb);have n1_:=Y0 (blk_below (g:=gb383) (o:=.cells #[.int .i64 t375,.string t376,.int .i64 t377,.int .i64 t378,.bool t379,.int .i64 t380,.int .i64 t381] 51 (0,0)) (by (with_reducible repeat first|apply Y11|apply Y13|apply Y12);exact BK383.out) hb);have n2_:=Y0 (blk_below (g:=gb392) (o:=.cells #[.int .i64 t384,.string t385,.int .i64 t386,.int .i64 t387,.bool t388,.int .i64 t389,.int .i64 t390] 51 (0,0)) (by (with_reducible repeat first|apply Y11|apply Y13|apply Y12);exact BK392.out) hb);have n3_:=Y0 (below_step (by repeat (with_reducible first|exact HB.out|apply Y3|apply Y1|apply Y2|refine Y4 ?_ GE372.out|refine Y4 ?_ GE383.out|refine Y4 ?_ GE392.out)) hb);clear BK372;clear BK383;clear BK392;clear HB;have BK372:=n0_;have BK383:=n1_;have BK392:=n2_;have HB:=n3_;clear n0_ n1_ n2_ n3_;(try clear hb);(try clear hb2);(try clear hk);(try clear hi)))
       go_meet
       case rel=>exact ⟨_,(true),(by first|rfl|(simp;done)|(simp [*];done)),H',⟨by have:=HJ6.out;have:=HJ15.out;first|omega|exact Nat.le_refl _⟩,⟨by (with_reducible repeat first|apply Y11|apply Y13|apply Y12);exact BK372.out⟩,⟨by (with_reducible repeat first|apply Y11|apply Y13|apply Y12);exact BK383.out⟩,⟨by (with_reducible repeat first|apply Y11|apply Y13|apply Y12);exact BK392.out⟩,⟨by repeat (with_reducible first|exact HB.out|apply Y3|apply Y1|apply Y2|refine Y4 ?_ GE372.out|refine Y4 ?_ GE383.out|refine Y4 ?_ GE392.out)⟩⟩
      subst c78
      rw [if_pos rfl] at H
      by_cases c79:a1 < 0
      ·rw [if_pos c79] at H
       have c79b0:decide (a1 < 0)=true:=decide_eq_true c79
       clear c79
       (first|rw [c79b0]|(simp only [];rw [c79b0])|skip)
       have H':=Y0 H
       clear H
       have hnb80:=NB372_383.out
       have hnc80:=NB383_372.out
       have hnb81:=NB372_392.out
       have hnc81:=NB392_372.out
       have ⟨hcz82_0,hcz82_1,hfz82_0,hfz82_1⟩:=sq_box2 BK372.out
       go_wp2_with (first|((with_reducible refine gate_callee (f:=19) rfl ?_);refine goesL_ (some 81) rfl rfl Tryz.func19 (by kernel_rfl) rfl #[.agg #[.slice A0_0 l0_0.length c0_0,.slice A0_1 l0_1.length c0_1]] rfl (by (try simp only [List.map_toArray,List.map_cons,List.map_nil]);first|done|rfl|(simp only [List.length_drop,List.length_take];rfl)) ?_;(with_reducible refine (table_May.calls _ _ l0_0 _ _ l0_1 true _ ?side1 ?side2 ?side3 ?side4 A77.out).mono ?_);(case side1=>repeat (first|exact (Kd.C_below HR0_0.out HB.out)|(with_reducible refine Y8 ?_ _)|(with_reducible refine Kd.C_drewN ?_ _)|(with_reducible refine Kd.C_drew ?_)));(case side2=>exact HC0_0.out);(case side3=>repeat (first|exact (Kd.C_below HR0_1.out HB.out)|(with_reducible refine Y8 ?_ _)|(with_reducible refine Kd.C_drewN ?_ _)|(with_reducible refine Kd.C_drew ?_)));(case side4=>exact HC0_1.out);rintro e w83 ⟨rfl,hb⟩;refine ⟨_,rfl,?_⟩;have n0_:=Y0 (blk_below (g:=gb372) (o:=.cells #[.slice A0_0 l0_0.length c0_0,.slice A0_1 l0_1.length c0_1] 46 (0,0)) (by (with_reducible repeat first|apply Y11|apply Y13|apply Y12);exact BK372.out) hb);have n1_:=Y0 (blk_below (g:=gb383) (o:=.cells #[.int .i64 t375,.string t376,.int .i64 t377,.int .i64 t378,.bool t379,.int .i64 t380,.int .i64 t381] 51 (0,0)) (by (with_reducible repeat first|apply Y11|apply Y13|apply Y12);exact BK383.out) hb);have n2_:=Y0 (blk_below (g:=gb392) (o:=.cells #[.int .i64 t384,.string t385,.int .i64 t386,.int .i64 t387,.bool t388,.int .i64 t389,.int .i64 t390] 51 (0,0)) (by (with_reducible repeat first|apply Y11|apply Y13|apply Y12);exact BK392.out) hb);have n3_:=Y0 (below_step (by repeat (with_reducible first|exact HB.out|apply Y3|apply Y1|apply Y2|refine Y4 ?_ GE372.out|refine Y4 ?_ GE383.out|refine Y4 ?_ GE392.out)) hb);clear BK372;clear BK383;clear BK392;clear HB;have BK372:=n0_;have BK383:=n1_;have BK392:=n2_;have HB:=n3_;clear n0_ n1_ n2_ n3_;(try clear hb);(try clear hb2);(try clear hk);(try clear hi)))
       go_meet
       case rel=>exact ⟨_,(true),(by first|rfl|(simp;done)|(simp [*];done)),H',⟨by have:=HJ6.out;have:=HJ15.out;first|omega|exact Nat.le_refl _⟩,⟨by (with_reducible repeat first|apply Y11|apply Y13|apply Y12);exact BK372.out⟩,⟨by (with_reducible repeat first|apply Y11|apply Y13|apply Y12);exact BK383.out⟩,⟨by (with_reducible repeat first|apply Y11|apply Y13|apply Y12);exact BK392.out⟩,⟨by repeat (with_reducible first|exact HB.out|apply Y3|apply Y1|apply Y2|refine Y4 ?_ GE372.out|refine Y4 ?_ GE383.out|refine Y4 ?_ GE392.out)⟩⟩
      rw [if_neg c79] at H
      have c79b0:decide (a1 < 0)=false:=decide_eq_false c79
      clear c79
      (first|rw [c79b0]|(simp only [];rw [c79b0])|skip)
      have H':=Y0 H
      clear H
      have hnb84:=NB372_383.out
      have hnc84:=NB383_372.out
      have hnb85:=NB372_392.out
      have hnc85:=NB392_372.out
      have ⟨hcz86_0,hcz86_1,hfz86_0,hfz86_1⟩:=sq_box2 BK372.out
      go_wp2_with (first|((with_reducible refine gate_callee (f:=19) rfl ?_);refine goesL_ (some 81) rfl rfl Tryz.func19 (by kernel_rfl) rfl #[.agg #[.slice A0_0 l0_0.length c0_0,.slice A0_1 l0_1.length c0_1]] rfl (by (try simp only [List.map_toArray,List.map_cons,List.map_nil]);first|done|rfl|(simp only [List.length_drop,List.length_take];rfl)) ?_;(with_reducible refine (table_May.calls _ _ l0_0 _ _ l0_1 true _ ?side1 ?side2 ?side3 ?side4 A77.out).mono ?_);(case side1=>repeat (first|exact (Kd.C_below HR0_0.out HB.out)|(with_reducible refine Y8 ?_ _)|(with_reducible refine Kd.C_drewN ?_ _)|(with_reducible refine Kd.C_drew ?_)));(case side2=>exact HC0_0.out);(case side3=>repeat (first|exact (Kd.C_below HR0_1.out HB.out)|(with_reducible refine Y8 ?_ _)|(with_reducible refine Kd.C_drewN ?_ _)|(with_reducible refine Kd.C_drew ?_)));(case side4=>exact HC0_1.out);rintro e w87 ⟨rfl,hb⟩;refine ⟨_,rfl,?_⟩;have n0_:=Y0 (blk_below (g:=gb372) (o:=.cells #[.slice A0_0 l0_0.length c0_0,.slice A0_1 l0_1.length c0_1] 46 (0,0)) (by (with_reducible repeat first|apply Y11|apply Y13|apply Y12);exact BK372.out) hb);have n1_:=Y0 (blk_below (g:=gb383) (o:=.cells #[.int .i64 t375,.string t376,.int .i64 t377,.int .i64 t378,.bool t379,.int .i64 t380,.int .i64 t381] 51 (0,0)) (by (with_reducible repeat first|apply Y11|apply Y13|apply Y12);exact BK383.out) hb);have n2_:=Y0 (blk_below (g:=gb392) (o:=.cells #[.int .i64 t384,.string t385,.int .i64 t386,.int .i64 t387,.bool t388,.int .i64 t389,.int .i64 t390] 51 (0,0)) (by (with_reducible repeat first|apply Y11|apply Y13|apply Y12);exact BK392.out) hb);have n3_:=Y0 (below_step (by repeat (with_reducible first|exact HB.out|apply Y3|apply Y1|apply Y2|refine Y4 ?_ GE372.out|refine Y4 ?_ GE383.out|refine Y4 ?_ GE392.out)) hb);clear BK372;clear BK383;clear BK392;clear HB;have BK372:=n0_;have BK383:=n1_;have BK392:=n2_;have HB:=n3_;clear n0_ n1_ n2_ n3_;(try clear hb);(try clear hb2);(try clear hk);(try clear hi);have ⟨hcz88_0,hcz88_1,hfz88_0,hfz88_1⟩:=sq_box2 BK372.out))
      go_meet
      case rel=>exact ⟨_,(decide (a1 ≥ (l0_0.length:Int))),(by first|rfl|(simp;done)|(simp [*];done)),H',⟨by have:=HJ6.out;have:=HJ15.out;first|omega|exact Nat.le_refl _⟩,⟨by (with_reducible repeat first|apply Y11|apply Y13|apply Y12);exact BK372.out⟩,⟨by (with_reducible repeat first|apply Y11|apply Y13|apply Y12);exact BK383.out⟩,⟨by (with_reducible repeat first|apply Y11|apply Y13|apply Y12);exact BK392.out⟩,⟨by repeat (with_reducible first|exact HB.out|apply Y3|apply Y1|apply Y2|refine Y4 ?_ GE372.out|refine Y4 ?_ GE383.out|refine Y4 ?_ GE392.out)⟩⟩
     case rest =>
      clear HC76
      obtain ⟨kq,x93_75,rfl,HA,HJ75,BK372,BK383,BK392,HB⟩:=hcut
      cases kq with
      | zero=>exact absurd HA.out (by simp [trufflelaw08_TableFinds.j2])
      | succ kj75 =>
       have H:=HA.out
       clear HA
       simp only [trufflelaw08_TableFinds.j2] at H
       by_cases c93:x93_75=true
       ·subst c93
        rw [if_pos rfl] at H
        clear H
        go_wp2
        go_ret
        exact ⟨by first|rfl|(simp [] <;> rfl)|(simp [*] <;> rfl),by repeat (with_reducible first|exact HB.out|apply Y3|apply Y1|apply Y2|refine Y4 ?_ GE372.out|refine Y4 ?_ GE383.out|refine Y4 ?_ GE392.out)⟩
       replace c93:=Bool.eq_false_iff.mpr c93
       subst c93
       rw [if_neg (show ¬ (false=true) by decide)] at H
       have H':=Y0 H
       clear H
       go_wp2
       go_loopg [15] kj75 (fun kq v15 w'=>∃ (x15_4:Int),v15 = .int .i64 x15_4∧Aside0 (trufflelaw08_TableFinds.l0 kq a1 x15_4 l0_0 l0_1=some true)∧Aside0 (kq≤kj75)∧Aside0 (w'.heap[gb372]?=some (.cells #[(.slice A0_0 l0_0.length c0_0),(.slice A0_1 l0_1.length c0_1)] 46 (0,0)))∧Aside0 (w'.heap[gb383]?=some (.cells #[.int .i64 t375,.string t376,.int .i64 t377,.int .i64 t378,.bool t379,.int .i64 t380,.int .i64 t381] 51 (0,0)))∧Aside0 (w'.heap[gb392]?=some (.cells #[.int .i64 t384,.string t385,.int .i64 t386,.int .i64 t387,.bool t388,.int .i64 t389,.int .i64 t390] 51 (0,0)))∧Aside0 (Below w.heap.size w w'))
       case atStart=>exact ⟨(0),(by first|rfl|(simp;done)|(simp [*];done)),H',⟨Nat.le_refl _⟩,⟨by (with_reducible repeat first|apply Y11|apply Y13|apply Y12);exact BK372.out⟩,⟨by (with_reducible repeat first|apply Y11|apply Y13|apply Y12);exact BK383.out⟩,⟨by (with_reducible repeat first|apply Y11|apply Y13|apply Y12);exact BK392.out⟩,⟨by repeat (with_reducible first|exact HB.out|apply Y3|apply Y1|apply Y2|refine Y4 ?_ GE372.out|refine Y4 ?_ GE383.out|refine Y4 ?_ GE392.out)⟩⟩
       case round =>
        clear H'
        obtain ⟨x15_4,rfl,HA,HK4,BK372,BK383,BK392,HB⟩:=hrel
        cases gk with
        | zero=>exact absurd HA.out (by simp [trufflelaw08_TableFinds.l0])
        | succ k4 =>
         have H:=HA.out
         clear HA
         simp only [trufflelaw08_TableFinds.l0] at H
         by_cases c94:0≤a1
         rotate_left
         ·rw [if_neg c94] at H
          exact absurd H (by simp)
         rw [if_pos c94] at H
         have c94b0:decide (0≤a1)=true:=decide_eq_true c94
         clear c94
         by_cases c95:a1 < (l0_0.length:Int)
         rotate_left
         ·rw [if_neg c95] at H
          exact absurd H (by simp)
         rw [if_pos c95] at H
         have c95b0:decide (a1 < (l0_0.length:Int))=true:=decide_eq_true c95
         clear c95
         by_cases c96:x15_4 < (((rd_T57 l0_0 a1).f1).length:Int)
         rotate_left
         ·rw [if_neg c96] at H
          have c96b0:decide (x15_4 < (((rd_T57 l0_0 a1).f1).length:Int))=false:=decide_eq_false c96
          clear c96
          replace H:=Y17.mp H
          obtain ⟨⟨t396,t397⟩,A1320,H⟩:=H
          try dsimp only at H
          have A132:=Y0 A1320
          clear A1320
          by_cases c133:t397=true
          rotate_left
          ·replace c133:=Bool.eq_false_iff.mpr c133
           subst c133
           rw [if_neg (show ¬ (false=true) by decide)] at H
           exact absurd (Option.some.inj H) Bool.false_ne_true
          subst c133
          rw [if_pos rfl] at H
          have hv_:=Option.some.inj H
          have hnb134:=NB372_383.out
          have hnc134:=NB383_372.out
          have hnb135:=NB372_392.out
          have hnc135:=NB392_372.out
          have ⟨hcz136_0,hcz136_1,hfz136_0,hfz136_1⟩:=sq_box2 BK372.out
          have p394:0≤(a1:Int):=of_decide_eq_true (by first|(with_reducible assumption)|assumption)
          have q394:a1 < (l0_0.length:Int):=of_decide_eq_true (by first|(with_reducible assumption)|assumption)
          obtain ⟨ad394,A394_1,c394_1,e394,hx394_0,hx394_1,hl394_1,hi394_1⟩:=at_T57 HR0_0.out a1 p394 q394
          cases e394
          replace hx394_0:=(HB.out.cell (World.block_lt_of_cell? w _ hx394_0)).trans hx394_0
          replace hx394_1:=(HB.out.cell (World.block_lt_of_cell? w _ hx394_1)).trans hx394_1
          have HR394_1:=Y0 hi394_1
          have HC394_1:=Y0 hl394_1
          clear hi394_1 hl394_1
          replace p394:=eq_true p394
          replace q394:=eq_true q394
          try go_wp2
          have n0_:=Y0 (blk_drew BK372.out)
          have n1_:=Y0 (blk_drew BK383.out)
          have n2_:=Y0 (blk_drew BK392.out)
          have n3_:=Y0 (below_drew1 HB.out)
          clear BK372
          clear BK383
          clear BK392
          clear HB
          have BK372:=n0_
          have BK383:=n1_
          have BK392:=n2_
          have HB:=n3_
          clear n0_ n1_ n2_ n3_
          have p395:0≤(a1:Int):=of_decide_eq_true (by first|(with_reducible assumption)|assumption)
          have q395:a1 < (l0_0.length:Int):=of_decide_eq_true (by first|(with_reducible assumption)|assumption)
          obtain ⟨ad395,A395_1,c395_1,e395,hx395_0,hx395_1,hl395_1,hi395_1⟩:=at_T57 HR0_0.out a1 p395 q395
          have hw395_1:=hx395_1
          have hw395_0:=hx395_0
          obtain rfl:ad394=ad395:=(by injection e395)
          replace hx395_0:=(HB.out.cell (World.block_lt_of_cell? w _ hx395_0)).trans hx395_0
          replace hx395_1:=(HB.out.cell (World.block_lt_of_cell? w _ hx395_1)).trans hx395_1
          have HR395_1:=Y0 hi395_1
          have HC395_1:=Y0 hl395_1
          clear hi395_1 hl395_1
          replace p395:=eq_true p395
          replace q395:=eq_true q395
          refine start_ (n:=13) (S:=fun w'=>w'.cell? ⟨gb372,0,none⟩=some (.slice (some ad394) l0_0.length c0_0)∧w'.cell? ⟨gb372,1,none⟩=some (.slice A0_1 l0_1.length c0_1)∧w'.cell? (ad394.add ((a1).toNat * 2))=some (.string ((rd_T57 l0_0 a1).f0))∧w'.cell? ⟨(ad394.add ((a1).toNat * 2)).block,(ad394.add ((a1).toNat * 2)).off + 1,none⟩=some (.slice A395_1 ((rd_T57 l0_0 a1).f1).length c395_1)) (ds:=[]) #[false,false,false,false,false,false,false,false,false,false,false,false,false] (by kernel_rfl) rfl rfl ⟨(blk_cell BK372.out 0).trans rfl,(blk_cell BK372.out 1).trans rfl,((HB.out.cell (World.block_lt_of_cell? w _ hw395_0)).trans hw395_0),((HB.out.cell (World.block_lt_of_cell? w _ hw395_1)).trans hw395_1)⟩ (fun hHeld=>?_);refine with_tabW trufflelaw08_TableFinds.tab18 trufflelaw08_TableFinds.bits18 (fun HT_ HW_=>?_)
          generalize wr.drew=w137 at BK372 BK383 BK392 HB HR395_1 hx395_0 hx395_1 hHeld ⊢
          refine pure_ (i:=1) (N:=some 163) (v:=?_) (a':=?_) (sqB 13 2) rfl rfl (any_of HT_.out (by kernel_rfl)) (fun _ _ _ h=>h) (Or.inl ⟨by rfl,?_⟩) ?_ ?_;rotate_left;intro w';go_simp;with_reducible rfl;rotate_left;simp only [Act.put,Y14,Y15,Y16];rfl
          refine pure_ (i:=3) (N:=some 165) (v:=?_) (a':=?_) (sqB 13 10) rfl rfl (any_of HT_.out (by kernel_rfl)) (fun _ _ _ h=>h) (Or.inl ⟨by rfl,?_⟩) ?_ ?_;rotate_left;intro w';go_simp;with_reducible rfl;rotate_left;simp only [Act.put,Y14,Y15,Y16];rfl
          refine take_ (i:=0) (N:=some 162) (v:=?_) (a':=?_) (sqB 13 11) rfl rfl (take_ofW HT_.out HW_.out (by kernel_rfl)) (fun _ _ _ h=>h) (Or.inl ⟨by rfl,?_⟩) hHeld ?_ ?_;rotate_left;rintro w' ⟨s0,s1,s2,s3⟩;go_simp;with_reducible rfl;rotate_left;simp only [Act.put,Y14,Y15,Y16];rfl
          refine take_ (i:=2) (N:=some 164) (v:=?_) (a':=?_) (sqB 13 15) rfl rfl (take_ofW HT_.out HW_.out (by kernel_rfl)) (fun _ _ _ h=>h) (Or.inl ⟨by rfl,?_⟩) hHeld ?_ ?_;rotate_left;rintro w' ⟨s0,s1,s2,s3⟩;go_simp;with_reducible rfl;rotate_left;simp only [Act.put,Y14,Y15,Y16];rfl
          refine pure_ (i:=4) (N:=some 166) (v:=?_) (a':=?_) (sqB 13 31) rfl rfl (any_of HT_.out (by kernel_rfl)) (fun _ _ _ h=>h) (Or.inl ⟨by rfl,?_⟩) ?_ ?_;rotate_left;intro w';go_simp;with_reducible rfl;rotate_left;simp only [Act.put,Y14,Y15,Y16];rfl
          refine pure_ (i:=5) (N:=some 167) (v:=?_) (a':=?_) (sqB 13 63) rfl rfl (any_of HT_.out (by kernel_rfl)) (fun _ _ _ h=>h) (Or.inl ⟨by rfl,?_⟩) ?_ ?_;rotate_left;intro w';go_simp;with_reducible rfl;rotate_left;simp only [Act.put,Y14,Y15,Y16];rfl
          refine take_ (i:=6) (N:=some 168) (v:=?_) (a':=?_) (sqB 13 127) rfl rfl (take_ofW HT_.out HW_.out (by kernel_rfl)) (fun _ _ _ h=>h) (Or.inl ⟨by rfl,?_⟩) hHeld ?_ ?_;rotate_left;rintro w' ⟨s0,s1,s2,s3⟩;go_simp;with_reducible rfl;rotate_left;simp only [Act.put,Y14,Y15,Y16];rfl
          refine one_ (i:=7) (N:=some 169) (sqB 13 255) rfl rfl (one_of HT_.out (by kernel_rfl)) (by decide) (fun K hK=>?_)
          refine goes_ Tryz.func23 (by kernel_rfl) rfl #[.agg #[.slice (some ad394) l0_0.length c0_0,.slice A0_1 l0_1.length c0_1],.string ((rd_T57 l0_0 a1).f0)] (by rfl) rfl rfl (by (try simp only [List.map_toArray,List.map_cons,List.map_nil]);first|done|rfl|(simp only [List.length_drop,List.length_take];rfl)) ?_
          with_reducible refine (table_Root.calls _ _ l0_0 _ _ l0_1 ((rd_T57 l0_0 a1).f0) t396 true _ ?side1 ?side2 ?side3 ?side4 A132.out).mono ?_
          (case side1=>repeat (first|exact (Kd.C_below HR0_0.out HB.out)|(with_reducible refine Y8 ?_ _)|(with_reducible refine Kd.C_drewN ?_ _)|(with_reducible refine Kd.C_drew ?_)))
          (case side2=>exact HC0_0.out)
          (case side3=>repeat (first|exact (Kd.C_below HR0_1.out HB.out)|(with_reducible refine Y8 ?_ _)|(with_reducible refine Kd.C_drewN ?_ _)|(with_reducible refine Kd.C_drew ?_)))
          (case side4=>exact HC0_1.out)
          rintro e w138 ⟨rfl,hb⟩
          refine ⟨_,rfl,?_⟩
          have n0_:=Y0 (blk_below (g:=gb372) (o:=.cells #[.slice (some ad394) l0_0.length c0_0,.slice A0_1 l0_1.length c0_1] 46 (0,0)) (by (with_reducible repeat first|apply Y11|apply Y13|apply Y12);exact BK372.out) hb)
          have n1_:=Y0 (blk_below (g:=gb383) (o:=.cells #[.int .i64 t375,.string t376,.int .i64 t377,.int .i64 t378,.bool t379,.int .i64 t380,.int .i64 t381] 51 (0,0)) (by (with_reducible repeat first|apply Y11|apply Y13|apply Y12);exact BK383.out) hb)
          have n2_:=Y0 (blk_below (g:=gb392) (o:=.cells #[.int .i64 t384,.string t385,.int .i64 t386,.int .i64 t387,.bool t388,.int .i64 t389,.int .i64 t390] 51 (0,0)) (by (with_reducible repeat first|apply Y11|apply Y13|apply Y12);exact BK392.out) hb)
          have n3_:=Y0 (below_step (by repeat (with_reducible first|exact HB.out|apply Y3|apply Y1|apply Y2|refine Y4 ?_ GE372.out|refine Y4 ?_ GE383.out|refine Y4 ?_ GE392.out)) hb)
          clear BK372
          clear BK383
          clear BK392
          clear HB
          have BK372:=n0_
          have BK383:=n1_
          have BK392:=n2_
          have HB:=n3_
          clear n0_ n1_ n2_ n3_
          (try clear hb)
          (try clear hb2)
          (try clear hk)
          (try clear hi)
          refine hK.out _ _ ⟨(blk_cell BK372.out 0).trans rfl,(blk_cell BK372.out 1).trans rfl,((HB.out.cell (World.block_lt_of_cell? w _ hw395_0)).trans hw395_0),((HB.out.cell (World.block_lt_of_cell? w _ hw395_1)).trans hw395_1)⟩ (fun hHeld=>?_)
          clear hK K
          refine norm_ (a':=?_) ?_ ?_;rotate_left;show Act.put _ (some 169) _=_;simp only [Act.put,Y14,Y15,Y16];rfl
          refine pure_ (i:=8) (N:=some 161) (v:=?_) (a':=?_) (sqB 13 511) rfl rfl (any_of HT_.out (by kernel_rfl)) (fun _ _ _ h=>h) (Or.inl ⟨by rfl,?_⟩) ?_ ?_;rotate_left;intro w';go_simp;with_reducible rfl;rotate_left;simp only [Act.put,Y14,Y15,Y16];rfl
          refine pure_ (i:=9) (N:=some 170) (v:=?_) (a':=?_) (sqB 13 1023) rfl rfl (any_of HT_.out (by kernel_rfl)) (fun _ _ _ h=>h) (Or.inl ⟨by rfl,?_⟩) ?_ ?_;rotate_left;intro w';go_simp;with_reducible rfl;rotate_left;simp only [Act.put,Y14,Y15,Y16];rfl
          refine pure_ (i:=10) (N:=some 171) (v:=?_) (a':=?_) (sqB 13 2047) rfl rfl (any_of HT_.out (by kernel_rfl)) (fun _ _ _ h=>h) (Or.inl ⟨by rfl,?_⟩) ?_ ?_;rotate_left;intro w';go_simp;with_reducible rfl;rotate_left;simp only [Act.put,Y14,Y15,Y16];rfl
          refine pure_ (i:=11) (N:=some 20) (v:=?_) (a':=?_) (sqB 13 4095) rfl rfl (any_of HT_.out (by kernel_rfl)) (fun _ _ _ h=>h) (Or.inl ⟨by rfl,?_⟩) ?_ ?_;rotate_left;intro w';go_simp;with_reducible rfl;rotate_left;simp only [Act.put,Y14,Y15,Y16];rfl
          refine pure_ (i:=12) (N:=some 21) (v:=?_) (a':=?_) (sqB 13 8191) rfl rfl (any_of HT_.out (by kernel_rfl)) (fun _ _ _ h=>h) (Or.inl ⟨by rfl,?_⟩) ?_ ?_;rotate_left;intro w';go_simp;with_reducible rfl;rotate_left;simp only [Act.put,Y14,Y15,Y16];rfl
          refine done_ (done_of HT_.out (by kernel_rfl)) ?_
          try go_wp2
          go_ret
          exact ⟨by first|rfl|(rw [hv_];done)|(simp [hv_];done)|(simp [← hv_];done)|(simp [] <;> rfl)|(simp [*] <;> rfl),by repeat (with_reducible first|exact HB.out|apply Y3|apply Y1|apply Y2|refine Y4 ?_ GE372.out|refine Y4 ?_ GE383.out|refine Y4 ?_ GE392.out)⟩
         rw [if_pos c96] at H
         have c96b0:decide (x15_4 < (((rd_T57 l0_0 a1).f1).length:Int))=true:=decide_eq_true c96
         clear c96
         by_cases c97:0≤x15_4
         rotate_left
         ·rw [if_neg c97] at H
          exact absurd H (by simp)
         rw [if_pos c97] at H
         have c97b0:decide (0≤x15_4)=true:=decide_eq_true c97
         clear c97
         replace H:=Y17.mp H
         obtain ⟨⟨t400,t401,t402,t403,t404,t405,t406,t407⟩,A980,H⟩:=H
         try dsimp only at H
         have A98:=Y0 A980
         clear A980
         replace H:=Y17.mp H
         obtain ⟨⟨t411,t412,t413,t414,t415,t416,t417,t418⟩,A990,H⟩:=H
         try dsimp only at H
         have A99:=Y0 A990
         clear A990
         by_cases c100:t407=true
         rotate_left
         ·replace c100:=Bool.eq_false_iff.mpr c100
          subst c100
          rw [if_neg (show ¬ (false=true) by decide)] at H
          exact absurd (Option.some.inj H) Bool.false_ne_true
         subst c100
         rw [if_pos rfl] at H
         by_cases c101:t418=true
         rotate_left
         ·replace c101:=Bool.eq_false_iff.mpr c101
          subst c101
          rw [if_neg (show ¬ (false=true) by decide)] at H
          exact absurd (Option.some.inj H) Bool.false_ne_true
         subst c101
         rw [if_pos rfl] at H
         by_cases c102:(!(t400 == ((rd_T51 ((rd_T57 l0_0 a1).f1) x15_4).f0)) || (!(t401.toList == (((rd_T51 ((rd_T57 l0_0 a1).f1) x15_4).f1).toList)) || (!(t402 == ((rd_T51 ((rd_T57 l0_0 a1).f1) x15_4).f2)) || (!(t403 == ((rd_T51 ((rd_T57 l0_0 a1).f1) x15_4).f3)) || (!(t404 == ((rd_T51 ((rd_T57 l0_0 a1).f1) x15_4).f4)) || (!(t405 == ((rd_T51 ((rd_T57 l0_0 a1).f1) x15_4).f5)) || (!(t406 == ((rd_T51 ((rd_T57 l0_0 a1).f1) x15_4).f6)))))))))=true
         ·rw [if_pos c102] at H
          have c102b0:(!(t400 == ((rd_T51 ((rd_T57 l0_0 a1).f1) x15_4).f0)) || (!(t401.toList == (((rd_T51 ((rd_T57 l0_0 a1).f1) x15_4).f1).toList)) || (!(t402 == ((rd_T51 ((rd_T57 l0_0 a1).f1) x15_4).f2)) || (!(t403 == ((rd_T51 ((rd_T57 l0_0 a1).f1) x15_4).f3)) || (!(t404 == ((rd_T51 ((rd_T57 l0_0 a1).f1) x15_4).f4)) || (!(t405 == ((rd_T51 ((rd_T57 l0_0 a1).f1) x15_4).f5)) || (!(t406 == ((rd_T51 ((rd_T57 l0_0 a1).f1) x15_4).f6)))))))))=true:=c102
          clear c102
          exact absurd (Option.some.inj H) Bool.false_ne_true
         rw [if_neg c102] at H
         have c102b0:(!(t400 == ((rd_T51 ((rd_T57 l0_0 a1).f1) x15_4).f0)) || (!(t401.toList == (((rd_T51 ((rd_T57 l0_0 a1).f1) x15_4).f1).toList)) || (!(t402 == ((rd_T51 ((rd_T57 l0_0 a1).f1) x15_4).f2)) || (!(t403 == ((rd_T51 ((rd_T57 l0_0 a1).f1) x15_4).f3)) || (!(t404 == ((rd_T51 ((rd_T57 l0_0 a1).f1) x15_4).f4)) || (!(t405 == ((rd_T51 ((rd_T57 l0_0 a1).f1) x15_4).f5)) || (!(t406 == ((rd_T51 ((rd_T57 l0_0 a1).f1) x15_4).f6)))))))))=false:=by simpa using c102
         clear c102
         by_cases c103:(!(t411 == t400) || (!(t412.toList == t401.toList) || (!(t413 == t402) || (!(t414 == t403) || (!(t415 == t404) || (!(t416 == t405) || (!(t417 == t406))))))))=true
         ·rw [if_pos c103] at H
          have c103b0:(!(t411 == t400) || (!(t412.toList == t401.toList) || (!(t413 == t402) || (!(t414 == t403) || (!(t415 == t404) || (!(t416 == t405) || (!(t417 == t406))))))))=true:=c103
          clear c103
          exact absurd (Option.some.inj H) Bool.false_ne_true
         rw [if_neg c103] at H
         have c103b0:(!(t411 == t400) || (!(t412.toList == t401.toList) || (!(t413 == t402) || (!(t414 == t403) || (!(t415 == t404) || (!(t416 == t405) || (!(t417 == t406))))))))=false:=by simpa using c103
         clear c103
         have H':=Y0 H
         clear H
         have hnb104:=NB372_383.out
         have hnc104:=NB383_372.out
         have hnb105:=NB372_392.out
         have hnc105:=NB392_372.out
         have ⟨hcz106_0,hcz106_1,hfz106_0,hfz106_1⟩:=sq_box2 BK372.out
         have p394:0≤(a1:Int):=of_decide_eq_true (by first|(with_reducible assumption)|assumption)
         have q394:a1 < (l0_0.length:Int):=of_decide_eq_true (by first|(with_reducible assumption)|assumption)
         obtain ⟨ad394,A394_1,c394_1,e394,hx394_0,hx394_1,hl394_1,hi394_1⟩:=at_T57 HR0_0.out a1 p394 q394
         cases e394
         replace hx394_0:=(HB.out.cell (World.block_lt_of_cell? w _ hx394_0)).trans hx394_0
         replace hx394_1:=(HB.out.cell (World.block_lt_of_cell? w _ hx394_1)).trans hx394_1
         have HR394_1:=Y0 hi394_1
         have HC394_1:=Y0 hl394_1
         clear hi394_1 hl394_1
         replace p394:=eq_true p394
         replace q394:=eq_true q394
         try go_wp2
         have n0_:=Y0 (blk_drew BK372.out)
         have n1_:=Y0 (blk_drew BK383.out)
         have n2_:=Y0 (blk_drew BK392.out)
         have n3_:=Y0 (below_drew1 HB.out)
         clear BK372
         clear BK383
         clear BK392
         clear HB
         have BK372:=n0_
         have BK383:=n1_
         have BK392:=n2_
         have HB:=n3_
         clear n0_ n1_ n2_ n3_
         have p398:0≤(a1:Int):=of_decide_eq_true (by first|(with_reducible assumption)|assumption)
         have q398:a1 < (l0_0.length:Int):=of_decide_eq_true (by first|(with_reducible assumption)|assumption)
         obtain ⟨ad398,A398_1,c398_1,e398,hx398_0,hx398_1,hl398_1,hi398_1⟩:=at_T57 HR0_0.out a1 p398 q398
         have hw398_1:=hx398_1
         have hw398_0:=hx398_0
         obtain rfl:ad394=ad398:=(by injection e398)
         replace hx398_0:=(HB.out.cell (World.block_lt_of_cell? w _ hx398_0)).trans hx398_0
         replace hx398_1:=(HB.out.cell (World.block_lt_of_cell? w _ hx398_1)).trans hx398_1
         have HR398_1:=Y0 hi398_1
         have HC398_1:=Y0 hl398_1
         clear hi398_1 hl398_1
         replace p398:=eq_true p398
         replace q398:=eq_true q398
         have p399:0≤(x15_4:Int):=of_decide_eq_true (by first|(with_reducible assumption)|assumption)
         have q399:x15_4 < (((rd_T57 l0_0 a1).f1).length:Int):=of_decide_eq_true (by first|(with_reducible assumption)|assumption)
         obtain ⟨ad399,e399,hx399_0,hx399_1,hx399_2,hx399_3,hx399_4,hx399_5,hx399_6⟩:=at_T51 HR398_1.out x15_4 p399 q399
         have hw399_6:=hx399_6
         have hw399_5:=hx399_5
         have hw399_4:=hx399_4
         have hw399_3:=hx399_3
         have hw399_2:=hx399_2
         have hw399_1:=hx399_1
         have hw399_0:=hx399_0
         cases e399
         replace hx399_0:=(HB.out.cell (World.block_lt_of_cell? w _ hx399_0)).trans hx399_0
         replace hx399_1:=(HB.out.cell (World.block_lt_of_cell? w _ hx399_1)).trans hx399_1
         replace hx399_2:=(HB.out.cell (World.block_lt_of_cell? w _ hx399_2)).trans hx399_2
         replace hx399_3:=(HB.out.cell (World.block_lt_of_cell? w _ hx399_3)).trans hx399_3
         replace hx399_4:=(HB.out.cell (World.block_lt_of_cell? w _ hx399_4)).trans hx399_4
         replace hx399_5:=(HB.out.cell (World.block_lt_of_cell? w _ hx399_5)).trans hx399_5
         replace hx399_6:=(HB.out.cell (World.block_lt_of_cell? w _ hx399_6)).trans hx399_6
         replace p399:=eq_true p399
         replace q399:=eq_true q399
         refine start_ (n:=19) (S:=fun w'=>w'.cell? ⟨gb372,0,none⟩=some (.slice (some ad394) l0_0.length c0_0)∧w'.cell? ⟨gb372,1,none⟩=some (.slice A0_1 l0_1.length c0_1)∧w'.cell? (ad394.add ((a1).toNat * 2))=some (.string ((rd_T57 l0_0 a1).f0))∧w'.cell? ⟨(ad394.add ((a1).toNat * 2)).block,(ad394.add ((a1).toNat * 2)).off + 1,none⟩=some (.slice (some ad399) ((rd_T57 l0_0 a1).f1).length c398_1)∧w'.cell? (ad399.add ((x15_4).toNat * 7))=some (.int .i64 ((rd_T51 ((rd_T57 l0_0 a1).f1) x15_4).f0))∧w'.cell? ⟨(ad399.add ((x15_4).toNat * 7)).block,(ad399.add ((x15_4).toNat * 7)).off + 1,none⟩=some (.string ((rd_T51 ((rd_T57 l0_0 a1).f1) x15_4).f1))∧w'.cell? ⟨(ad399.add ((x15_4).toNat * 7)).block,(ad399.add ((x15_4).toNat * 7)).off + 2,none⟩=some (.int .i64 ((rd_T51 ((rd_T57 l0_0 a1).f1) x15_4).f2))∧w'.cell? ⟨(ad399.add ((x15_4).toNat * 7)).block,(ad399.add ((x15_4).toNat * 7)).off + 3,none⟩=some (.int .i64 ((rd_T51 ((rd_T57 l0_0 a1).f1) x15_4).f3))∧w'.cell? ⟨(ad399.add ((x15_4).toNat * 7)).block,(ad399.add ((x15_4).toNat * 7)).off + 4,none⟩=some (.bool ((rd_T51 ((rd_T57 l0_0 a1).f1) x15_4).f4))∧w'.cell? ⟨(ad399.add ((x15_4).toNat * 7)).block,(ad399.add ((x15_4).toNat * 7)).off + 5,none⟩=some (.int .i64 ((rd_T51 ((rd_T57 l0_0 a1).f1) x15_4).f5))∧w'.cell? ⟨(ad399.add ((x15_4).toNat * 7)).block,(ad399.add ((x15_4).toNat * 7)).off + 6,none⟩=some (.int .i64 ((rd_T51 ((rd_T57 l0_0 a1).f1) x15_4).f6))) (ds:=[]) #[false,false,false,false,false,false,false,false,false,false,false,false,false,false,false,false,false,false,false] (by kernel_rfl) rfl rfl ⟨(blk_cell BK372.out 0).trans rfl,(blk_cell BK372.out 1).trans rfl,((HB.out.cell (World.block_lt_of_cell? w _ hw398_0)).trans hw398_0),((HB.out.cell (World.block_lt_of_cell? w _ hw398_1)).trans hw398_1),((HB.out.cell (World.block_lt_of_cell? w _ hw399_0)).trans hw399_0),((HB.out.cell (World.block_lt_of_cell? w _ hw399_1)).trans hw399_1),((HB.out.cell (World.block_lt_of_cell? w _ hw399_2)).trans hw399_2),((HB.out.cell (World.block_lt_of_cell? w _ hw399_3)).trans hw399_3),((HB.out.cell (World.block_lt_of_cell? w _ hw399_4)).trans hw399_4),((HB.out.cell (World.block_lt_of_cell? w _ hw399_5)).trans hw399_5),((HB.out.cell (World.block_lt_of_cell? w _ hw399_6)).trans hw399_6)⟩ (fun hHeld=>?_);refine with_tabW trufflelaw08_TableFinds.tab14 trufflelaw08_TableFinds.bits14 (fun HT_ HW_=>?_)
         generalize wr.drew=w107 at BK372 BK383 BK392 HB HR398_1 hx398_0 hx398_1 hx399_0 hx399_1 hx399_2 hx399_3 hx399_4 hx399_5 hx399_6 hHeld ⊢
         refine pure_ (i:=1) (N:=some 107) (v:=?_) (a':=?_) (sqB 19 2) rfl rfl (any_of HT_.out (by kernel_rfl)) (fun _ _ _ h=>h) (Or.inl ⟨by rfl,?_⟩) ?_ ?_;rotate_left;intro w';go_simp;with_reducible rfl;rotate_left;simp only [Act.put,Y14,Y15,Y16];rfl
         refine pure_ (i:=2) (N:=some 108) (v:=?_) (a':=?_) (sqB 19 6) rfl rfl (any_of HT_.out (by kernel_rfl)) (fun _ _ _ h=>h) (Or.inl ⟨by rfl,?_⟩) ?_ ?_;rotate_left;intro w';go_simp;with_reducible rfl;rotate_left;simp only [Act.put,Y14,Y15,Y16];rfl
         refine pure_ (i:=4) (N:=some 110) (v:=?_) (a':=?_) (sqB 19 22) rfl rfl (any_of HT_.out (by kernel_rfl)) (fun _ _ _ h=>h) (Or.inl ⟨by rfl,?_⟩) ?_ ?_;rotate_left;intro w';go_simp;with_reducible rfl;rotate_left;simp only [Act.put,Y14,Y15,Y16];rfl
         refine pure_ (i:=8) (N:=some 114) (v:=?_) (a':=?_) (sqB 19 278) rfl rfl (any_of HT_.out (by kernel_rfl)) (fun _ _ _ h=>h) (Or.inl ⟨by rfl,?_⟩) ?_ ?_;rotate_left;intro w';go_simp;with_reducible rfl;rotate_left;simp only [Act.put,Y14,Y15,Y16];rfl
         refine take_ (i:=0) (N:=some 106) (v:=?_) (a':=?_) (sqB 19 279) rfl rfl (take_ofW HT_.out HW_.out (by kernel_rfl)) (fun _ _ _ h=>h) (Or.inl ⟨by rfl,?_⟩) hHeld ?_ ?_;rotate_left;rintro w' ⟨s0,s1,s2,s3,s4,s5,s6,s7,s8,s9,s10⟩;go_simp;with_reducible rfl;rotate_left;simp only [Act.put,Y14,Y15,Y16];rfl
         refine take_ (i:=3) (N:=some 109) (v:=?_) (a':=?_) (sqB 19 287) rfl rfl (take_ofW HT_.out HW_.out (by kernel_rfl)) (fun _ _ _ h=>h) (Or.inl ⟨by rfl,?_⟩) hHeld ?_ ?_;rotate_left;rintro w' ⟨s0,s1,s2,s3,s4,s5,s6,s7,s8,s9,s10⟩;go_simp;with_reducible rfl;rotate_left;simp only [Act.put,Y14,Y15,Y16];rfl
         refine pure_ (i:=5) (N:=some 111) (v:=?_) (a':=?_) (sqB 19 319) rfl rfl (any_of HT_.out (by kernel_rfl)) (fun _ _ _ h=>h) (Or.inl ⟨by rfl,?_⟩) ?_ ?_;rotate_left;intro w';go_simp;with_reducible rfl;rotate_left;simp only [Act.put,Y14,Y15,Y16];rfl
         refine pure_ (i:=6) (N:=some 112) (v:=?_) (a':=?_) (sqB 19 383) rfl rfl (any_of HT_.out (by kernel_rfl)) (fun _ _ _ h=>h) (Or.inl ⟨by rfl,?_⟩) ?_ ?_;rotate_left;intro w';go_simp;with_reducible rfl;rotate_left;simp only [Act.put,Y14,Y15,Y16];rfl
         refine take_ (i:=7) (N:=some 113) (v:=?_) (a':=?_) (sqB 19 511) rfl rfl (take_ofW HT_.out HW_.out (by kernel_rfl)) (fun _ _ _ h=>h) (Or.inl ⟨by rfl,?_⟩) hHeld ?_ ?_;rotate_left;rintro w' ⟨s0,s1,s2,s3,s4,s5,s6,s7,s8,s9,s10⟩;go_simp;with_reducible rfl;rotate_left;simp only [Act.put,Y14,Y15,Y16];rfl
         refine pure_ (i:=9) (N:=some 115) (v:=?_) (a':=?_) (sqB 19 1023) rfl rfl (any_of HT_.out (by kernel_rfl)) (fun _ _ _ h=>h) (Or.inl ⟨by rfl,?_⟩) ?_ ?_;rotate_left;intro w';go_simp;with_reducible rfl;rotate_left;simp only [Act.put,Y14,Y15,Y16];rfl
         refine pure_ (i:=10) (N:=some 116) (v:=?_) (a':=?_) (sqB 19 2047) rfl rfl (any_of HT_.out (by kernel_rfl)) (fun _ _ _ h=>h) (Or.inl ⟨by rfl,?_⟩) ?_ ?_;rotate_left;intro w';go_simp;with_reducible rfl;rotate_left;simp only [Act.put,Y14,Y15,Y16];rfl
         refine take_ (i:=11) (N:=some 117) (v:=?_) (a':=?_) (sqB 19 4095) rfl rfl (take_ofW HT_.out HW_.out (by kernel_rfl)) (fun _ _ _ h=>h) (Or.inl ⟨by rfl,?_⟩) hHeld ?_ ?_;rotate_left;rintro w' ⟨s0,s1,s2,s3,s4,s5,s6,s7,s8,s9,s10⟩;go_simp;with_reducible rfl;rotate_left;simp only [Act.put,Y14,Y15,Y16];rfl
         refine join_ (σ:=Nat) 2 #[true,true,true,true,true,true,true,true,true,true,true,true,true,true,true,true,true,false,false] (fun s_=>[(118,.tuple #[.agg #[.int .i64 t400,.string t401,.int .i64 t402,.int .i64 t403,.bool t404,.int .i64 t405,.int .i64 t406],.bool true]),(16,.pointer (some ⟨s_,0,none⟩)),(105,.tuple #[.agg #[.int .i64 t400,.string t401,.int .i64 t402,.int .i64 t403,.bool t404,.int .i64 t405,.int .i64 t406],.bool true]),(119,.agg #[.int .i64 t400,.string t401,.int .i64 t402,.int .i64 t403,.bool t404,.int .i64 t405,.int .i64 t406]),(120,.bool true)]) (fun s_ w'=>(w'.cell? ⟨gb372,0,none⟩=some (.slice (some ad394) l0_0.length c0_0)∧w'.cell? ⟨gb372,1,none⟩=some (.slice A0_1 l0_1.length c0_1)∧w'.cell? (ad394.add ((a1).toNat * 2))=some (.string ((rd_T57 l0_0 a1).f0))∧w'.cell? ⟨(ad394.add ((a1).toNat * 2)).block,(ad394.add ((a1).toNat * 2)).off + 1,none⟩=some (.slice (some ad399) ((rd_T57 l0_0 a1).f1).length c398_1)∧w'.cell? (ad399.add ((x15_4).toNat * 7))=some (.int .i64 ((rd_T51 ((rd_T57 l0_0 a1).f1) x15_4).f0))∧w'.cell? ⟨(ad399.add ((x15_4).toNat * 7)).block,(ad399.add ((x15_4).toNat * 7)).off + 1,none⟩=some (.string ((rd_T51 ((rd_T57 l0_0 a1).f1) x15_4).f1))∧w'.cell? ⟨(ad399.add ((x15_4).toNat * 7)).block,(ad399.add ((x15_4).toNat * 7)).off + 2,none⟩=some (.int .i64 ((rd_T51 ((rd_T57 l0_0 a1).f1) x15_4).f2))∧w'.cell? ⟨(ad399.add ((x15_4).toNat * 7)).block,(ad399.add ((x15_4).toNat * 7)).off + 3,none⟩=some (.int .i64 ((rd_T51 ((rd_T57 l0_0 a1).f1) x15_4).f3))∧w'.cell? ⟨(ad399.add ((x15_4).toNat * 7)).block,(ad399.add ((x15_4).toNat * 7)).off + 4,none⟩=some (.bool ((rd_T51 ((rd_T57 l0_0 a1).f1) x15_4).f4))∧w'.cell? ⟨(ad399.add ((x15_4).toNat * 7)).block,(ad399.add ((x15_4).toNat * 7)).off + 5,none⟩=some (.int .i64 ((rd_T51 ((rd_T57 l0_0 a1).f1) x15_4).f5))∧w'.cell? ⟨(ad399.add ((x15_4).toNat * 7)).block,(ad399.add ((x15_4).toNat * 7)).off + 6,none⟩=some (.int .i64 ((rd_T51 ((rd_T57 l0_0 a1).f1) x15_4).f6)))∧(w'.heap[gb372]?=some (.cells #[.slice (some ad394) l0_0.length c0_0,.slice A0_1 l0_1.length c0_1] 46 (0,0)))∧(w'.heap[gb383]?=some (.cells #[.int .i64 t375,.string t376,.int .i64 t377,.int .i64 t378,.bool t379,.int .i64 t380,.int .i64 t381] 51 (0,0)))∧(w'.heap[gb392]?=some (.cells #[.int .i64 t384,.string t385,.int .i64 t386,.int .i64 t387,.bool t388,.int .i64 t389,.int .i64 t390] 51 (0,0)))∧(w'.heap[s_]?=some (.cells #[.int .i64 0,.string (⟨#[]⟩:ByteArray),.int .i64 0,.int .i64 0,.bool false,.int .i64 0,.int .i64 0] 51 (0,0)))∧(w.heap.size≤s_)∧(w.heap.size≤s_)∧(gb372≠s_)∧(s_≠gb372)∧(gb383≠s_)∧(s_≠gb383)∧(gb392≠s_)∧(s_≠gb392)∧(Below w.heap.size w w')) ?_ ?_
         rotate_left
         ·intro hCont
          refine two_ (i:=12) (j:=16) (Ni:=some 118) (Nj:=some 16) #[true,true,true,true,true,true,true,true,true,true,true,true,true,false,false,false,false,false,false] #[true,true,true,true,true,true,true,true,true,true,true,true,false,false,false,false,true,false,false] rfl rfl rfl rfl (two_of HT_.out (by kernel_rfl)) (by decide) (by decide) (fun K hK=>?_) (fun K hK=>?_)
          ·skip
           refine goes_ Tryz.func20 (by kernel_rfl) rfl #[.agg #[.slice (some ad394) l0_0.length c0_0,.slice A0_1 l0_1.length c0_1],.int .i64 a1,.string ((rd_T51 ((rd_T57 l0_0 a1).f1) x15_4).f1)] (by rfl) rfl rfl (by (try simp only [List.map_toArray,List.map_cons,List.map_nil]);first|done|rfl|(simp only [List.length_drop,List.length_take];rfl)) ?_
           with_reducible refine (table_Find.calls _ _ l0_0 _ _ l0_1 a1 ((rd_T51 ((rd_T57 l0_0 a1).f1) x15_4).f1) t400 t401 t402 t403 t404 t405 t406 true _ ?side1 ?side2 ?side3 ?side4 A98.out).mono ?_
           (case side1=>repeat (first|exact (Kd.C_below HR0_0.out HB.out)|(with_reducible refine Y8 ?_ _)|(with_reducible refine Kd.C_drewN ?_ _)|(with_reducible refine Kd.C_drew ?_)))
           (case side2=>exact HC0_0.out)
           (case side3=>repeat (first|exact (Kd.C_below HR0_1.out HB.out)|(with_reducible refine Y8 ?_ _)|(with_reducible refine Kd.C_drewN ?_ _)|(with_reducible refine Kd.C_drew ?_)))
           (case side4=>exact HC0_1.out)
           rintro e w108 ⟨rfl,hb⟩
           refine ⟨_,rfl,?_⟩
           have n0_:=Y0 (blk_below (g:=gb372) (o:=.cells #[.slice (some ad394) l0_0.length c0_0,.slice A0_1 l0_1.length c0_1] 46 (0,0)) (by (with_reducible repeat first|apply Y11|apply Y13|apply Y12);exact BK372.out) hb)
           have n1_:=Y0 (blk_below (g:=gb383) (o:=.cells #[.int .i64 t375,.string t376,.int .i64 t377,.int .i64 t378,.bool t379,.int .i64 t380,.int .i64 t381] 51 (0,0)) (by (with_reducible repeat first|apply Y11|apply Y13|apply Y12);exact BK383.out) hb)
           have n2_:=Y0 (blk_below (g:=gb392) (o:=.cells #[.int .i64 t384,.string t385,.int .i64 t386,.int .i64 t387,.bool t388,.int .i64 t389,.int .i64 t390] 51 (0,0)) (by (with_reducible repeat first|apply Y11|apply Y13|apply Y12);exact BK392.out) hb)
           have n3_:=Y0 (below_step (by repeat (with_reducible first|exact HB.out|apply Y3|apply Y1|apply Y2|refine Y4 ?_ GE372.out|refine Y4 ?_ GE383.out|refine Y4 ?_ GE392.out)) hb)
           clear BK372
           clear BK383
           clear BK392
           clear HB
           have BK372:=n0_
           have BK383:=n1_
           have BK392:=n2_
           have HB:=n3_
           clear n0_ n1_ n2_ n3_
           (try clear hb)
           (try clear hb2)
           (try clear hk)
           (try clear hi)
           refine hK.out _ _ ⟨(blk_cell BK372.out 0).trans rfl,(blk_cell BK372.out 1).trans rfl,((HB.out.cell (World.block_lt_of_cell? w _ hw398_0)).trans hw398_0),((HB.out.cell (World.block_lt_of_cell? w _ hw398_1)).trans hw398_1),((HB.out.cell (World.block_lt_of_cell? w _ hw399_0)).trans hw399_0),((HB.out.cell (World.block_lt_of_cell? w _ hw399_1)).trans hw399_1),((HB.out.cell (World.block_lt_of_cell? w _ hw399_2)).trans hw399_2),((HB.out.cell (World.block_lt_of_cell? w _ hw399_3)).trans hw399_3),((HB.out.cell (World.block_lt_of_cell? w _ hw399_4)).trans hw399_4),((HB.out.cell (World.block_lt_of_cell? w _ hw399_5)).trans hw399_5),((HB.out.cell (World.block_lt_of_cell? w _ hw399_6)).trans hw399_6)⟩ (fun hHeld=>?_)
           clear hK K
           refine norm_ (a':=?_) ?_ ?_;rotate_left;show Act.put _ (some 118) _=_;simp only [Act.put,Y14,Y15,Y16];rfl
           refine pure_ (i:=13) (N:=some 105) (v:=?_) (a':=?_) (sqB 19 16383) rfl rfl (any_of HT_.out (by kernel_rfl)) (fun _ _ _ h=>h) (Or.inl ⟨by rfl,?_⟩) ?_ ?_;rotate_left;intro w';go_simp;with_reducible rfl;rotate_left;simp only [Act.put,Y14,Y15,Y16];rfl
           refine pure_ (i:=14) (N:=some 119) (v:=?_) (a':=?_) (sqB 19 32767) rfl rfl (any_of HT_.out (by kernel_rfl)) (fun _ _ _ h=>h) (Or.inl ⟨by rfl,?_⟩) ?_ ?_;rotate_left;intro w';go_simp;with_reducible rfl;rotate_left;simp only [Act.put,Y14,Y15,Y16];rfl
           refine pure_ (i:=15) (N:=some 120) (v:=?_) (a':=?_) (sqB 19 65535) rfl rfl (any_of HT_.out (by kernel_rfl)) (fun _ _ _ h=>h) (Or.inl ⟨by rfl,?_⟩) ?_ ?_;rotate_left;intro w';go_simp;with_reducible rfl;rotate_left;simp only [Act.put,Y14,Y15,Y16];rfl
           refine one_ (i:=16) (N:=some 16) (sqB 19 131071) rfl rfl (one_of HT_.out (by kernel_rfl)) (by decide) (fun K hK=>?_)
           refine box_step ?hg (N:=16) ?hd (cs:=#[.int .i64 0,.string (⟨#[]⟩:ByteArray),.int .i64 0,.int .i64 0,.bool false,.int .i64 0,.int .i64 0]) (t:=51) ?hr ?_;(case hd=>rfl);(case hg=>rfl);(case hr=>first|(go_simp;done)|(go_simp;rfl))
           intro gb408 hg w109 hbox hb
           have n0_:=Y0 (blk_below (g:=gb372) (o:=.cells #[.slice (some ad394) l0_0.length c0_0,.slice A0_1 l0_1.length c0_1] 46 (0,0)) (by (with_reducible repeat first|apply Y11|apply Y13|apply Y12);exact BK372.out) hb)
           have n1_:=Y0 (blk_below (g:=gb383) (o:=.cells #[.int .i64 t375,.string t376,.int .i64 t377,.int .i64 t378,.bool t379,.int .i64 t380,.int .i64 t381] 51 (0,0)) (by (with_reducible repeat first|apply Y11|apply Y13|apply Y12);exact BK383.out) hb)
           have n2_:=Y0 (blk_below (g:=gb392) (o:=.cells #[.int .i64 t384,.string t385,.int .i64 t386,.int .i64 t387,.bool t388,.int .i64 t389,.int .i64 t390] 51 (0,0)) (by (with_reducible repeat first|apply Y11|apply Y13|apply Y12);exact BK392.out) hb)
           have n3_:=Y0 (below_step (by repeat (with_reducible first|exact HB.out|apply Y3|apply Y1|apply Y2|refine Y4 ?_ GE372.out|refine Y4 ?_ GE383.out|refine Y4 ?_ GE392.out)) hb)
           have n4_:=Y0 (hbox)
           have n5_:=Y0 ((by rw [hg];exact (below_size (by repeat (with_reducible first|exact HB.out|apply Y3|apply Y1|apply Y2|refine Y4 ?_ GE372.out|refine Y4 ?_ GE383.out|refine Y4 ?_ GE392.out))):w.heap.size≤gb408))
           have n6_:=Y0 ((by rw [hg];exact (below_size (by repeat (with_reducible first|exact HB.out|apply Y3|apply Y1|apply Y2|refine Y4 ?_ GE372.out|refine Y4 ?_ GE383.out|refine Y4 ?_ GE392.out))):w.heap.size≤gb408))
           have n7_:=Y0 ((by rw [hg];exact Nat.ne_of_lt (blk_lt (g:=gb372) (o:=.cells #[.slice (some ad394) l0_0.length c0_0,.slice A0_1 l0_1.length c0_1] 46 (0,0)) (by (with_reducible repeat first|apply Y11|apply Y13|apply Y12);exact BK372.out)):gb372≠gb408))
           have n8_:=Y0 ((by rw [hg];exact Nat.ne_of_gt (blk_lt (g:=gb372) (o:=.cells #[.slice (some ad394) l0_0.length c0_0,.slice A0_1 l0_1.length c0_1] 46 (0,0)) (by (with_reducible repeat first|apply Y11|apply Y13|apply Y12);exact BK372.out)):gb408≠gb372))
           have n9_:=Y0 ((by rw [hg];exact Nat.ne_of_lt (blk_lt (g:=gb383) (o:=.cells #[.int .i64 t375,.string t376,.int .i64 t377,.int .i64 t378,.bool t379,.int .i64 t380,.int .i64 t381] 51 (0,0)) (by (with_reducible repeat first|apply Y11|apply Y13|apply Y12);exact BK383.out)):gb383≠gb408))
           have n10_:=Y0 ((by rw [hg];exact Nat.ne_of_gt (blk_lt (g:=gb383) (o:=.cells #[.int .i64 t375,.string t376,.int .i64 t377,.int .i64 t378,.bool t379,.int .i64 t380,.int .i64 t381] 51 (0,0)) (by (with_reducible repeat first|apply Y11|apply Y13|apply Y12);exact BK383.out)):gb408≠gb383))
           have n11_:=Y0 ((by rw [hg];exact Nat.ne_of_lt (blk_lt (g:=gb392) (o:=.cells #[.int .i64 t384,.string t385,.int .i64 t386,.int .i64 t387,.bool t388,.int .i64 t389,.int .i64 t390] 51 (0,0)) (by (with_reducible repeat first|apply Y11|apply Y13|apply Y12);exact BK392.out)):gb392≠gb408))
           have n12_:=Y0 ((by rw [hg];exact Nat.ne_of_gt (blk_lt (g:=gb392) (o:=.cells #[.int .i64 t384,.string t385,.int .i64 t386,.int .i64 t387,.bool t388,.int .i64 t389,.int .i64 t390] 51 (0,0)) (by (with_reducible repeat first|apply Y11|apply Y13|apply Y12);exact BK392.out)):gb408≠gb392))
           clear BK372
           clear BK383
           clear BK392
           clear HB
           have BK372:=n0_
           have BK383:=n1_
           have BK392:=n2_
           have HB:=n3_
           have BK408:=n4_
           have GW408:=n5_
           have GE408:=n6_
           have NB372_408:=n7_
           have NB408_372:=n8_
           have NB383_408:=n9_
           have NB408_383:=n10_
           have NB392_408:=n11_
           have NB408_392:=n12_
           clear n0_ n1_ n2_ n3_ n4_ n5_ n6_ n7_ n8_ n9_ n10_ n11_ n12_
           clear hb hbox hg
           refine hK.out _ _ ⟨(blk_cell BK372.out 0).trans rfl,(blk_cell BK372.out 1).trans rfl,((HB.out.cell (World.block_lt_of_cell? w _ hw398_0)).trans hw398_0),((HB.out.cell (World.block_lt_of_cell? w _ hw398_1)).trans hw398_1),((HB.out.cell (World.block_lt_of_cell? w _ hw399_0)).trans hw399_0),((HB.out.cell (World.block_lt_of_cell? w _ hw399_1)).trans hw399_1),((HB.out.cell (World.block_lt_of_cell? w _ hw399_2)).trans hw399_2),((HB.out.cell (World.block_lt_of_cell? w _ hw399_3)).trans hw399_3),((HB.out.cell (World.block_lt_of_cell? w _ hw399_4)).trans hw399_4),((HB.out.cell (World.block_lt_of_cell? w _ hw399_5)).trans hw399_5),((HB.out.cell (World.block_lt_of_cell? w _ hw399_6)).trans hw399_6)⟩ (fun hHeld=>?_)
           clear hK K
           refine norm_ (a':=?_) ?_ ?_;rotate_left;show Act.put _ (some 16) _=_;simp only [Act.put,Y14,Y15,Y16];rfl
           exact norm_ (by simp only [putAll,Act.put,List.setIfInBounds_toArray,List.set_cons_zero,List.set_cons_succ]) (hCont (gb408) _ ⟨hHeld,(by (with_reducible repeat first|apply Y11|apply Y13|apply Y12);exact BK372.out),(by (with_reducible repeat first|apply Y11|apply Y13|apply Y12);exact BK383.out),(by (with_reducible repeat first|apply Y11|apply Y13|apply Y12);exact BK392.out),(by (with_reducible repeat first|apply Y11|apply Y13|apply Y12);exact BK408.out),GW408.out,GE408.out,NB372_408.out,NB408_372.out,NB383_408.out,NB408_383.out,NB392_408.out,NB408_392.out,(by repeat (with_reducible first|exact HB.out|apply Y3|apply Y1|apply Y2|refine Y4 ?_ GE372.out|refine Y4 ?_ GE383.out|refine Y4 ?_ GE392.out|refine Y4 ?_ GE408.out))⟩)
          ·skip
           refine box_step ?hg (N:=16) ?hd (cs:=#[.int .i64 0,.string (⟨#[]⟩:ByteArray),.int .i64 0,.int .i64 0,.bool false,.int .i64 0,.int .i64 0]) (t:=51) ?hr ?_;(case hd=>rfl);(case hg=>rfl);(case hr=>first|(go_simp;done)|(go_simp;rfl))
           intro gb408 hg w108 hbox hb
           have n0_:=Y0 (blk_below (g:=gb372) (o:=.cells #[.slice (some ad394) l0_0.length c0_0,.slice A0_1 l0_1.length c0_1] 46 (0,0)) (by (with_reducible repeat first|apply Y11|apply Y13|apply Y12);exact BK372.out) hb)
           have n1_:=Y0 (blk_below (g:=gb383) (o:=.cells #[.int .i64 t375,.string t376,.int .i64 t377,.int .i64 t378,.bool t379,.int .i64 t380,.int .i64 t381] 51 (0,0)) (by (with_reducible repeat first|apply Y11|apply Y13|apply Y12);exact BK383.out) hb)
           have n2_:=Y0 (blk_below (g:=gb392) (o:=.cells #[.int .i64 t384,.string t385,.int .i64 t386,.int .i64 t387,.bool t388,.int .i64 t389,.int .i64 t390] 51 (0,0)) (by (with_reducible repeat first|apply Y11|apply Y13|apply Y12);exact BK392.out) hb)
           have n3_:=Y0 (below_step (by repeat (with_reducible first|exact HB.out|apply Y3|apply Y1|apply Y2|refine Y4 ?_ GE372.out|refine Y4 ?_ GE383.out|refine Y4 ?_ GE392.out)) hb)
           have n4_:=Y0 (hbox)
           have n5_:=Y0 ((by rw [hg];exact (below_size (by repeat (with_reducible first|exact HB.out|apply Y3|apply Y1|apply Y2|refine Y4 ?_ GE372.out|refine Y4 ?_ GE383.out|refine Y4 ?_ GE392.out))):w.heap.size≤gb408))
           have n6_:=Y0 ((by rw [hg];exact (below_size (by repeat (with_reducible first|exact HB.out|apply Y3|apply Y1|apply Y2|refine Y4 ?_ GE372.out|refine Y4 ?_ GE383.out|refine Y4 ?_ GE392.out))):w.heap.size≤gb408))
           have n7_:=Y0 ((by rw [hg];exact Nat.ne_of_lt (blk_lt (g:=gb372) (o:=.cells #[.slice (some ad394) l0_0.length c0_0,.slice A0_1 l0_1.length c0_1] 46 (0,0)) (by (with_reducible repeat first|apply Y11|apply Y13|apply Y12);exact BK372.out)):gb372≠gb408))
           have n8_:=Y0 ((by rw [hg];exact Nat.ne_of_gt (blk_lt (g:=gb372) (o:=.cells #[.slice (some ad394) l0_0.length c0_0,.slice A0_1 l0_1.length c0_1] 46 (0,0)) (by (with_reducible repeat first|apply Y11|apply Y13|apply Y12);exact BK372.out)):gb408≠gb372))
           have n9_:=Y0 ((by rw [hg];exact Nat.ne_of_lt (blk_lt (g:=gb383) (o:=.cells #[.int .i64 t375,.string t376,.int .i64 t377,.int .i64 t378,.bool t379,.int .i64 t380,.int .i64 t381] 51 (0,0)) (by (with_reducible repeat first|apply Y11|apply Y13|apply Y12);exact BK383.out)):gb383≠gb408))
           have n10_:=Y0 ((by rw [hg];exact Nat.ne_of_gt (blk_lt (g:=gb383) (o:=.cells #[.int .i64 t375,.string t376,.int .i64 t377,.int .i64 t378,.bool t379,.int .i64 t380,.int .i64 t381] 51 (0,0)) (by (with_reducible repeat first|apply Y11|apply Y13|apply Y12);exact BK383.out)):gb408≠gb383))
           have n11_:=Y0 ((by rw [hg];exact Nat.ne_of_lt (blk_lt (g:=gb392) (o:=.cells #[.int .i64 t384,.string t385,.int .i64 t386,.int .i64 t387,.bool t388,.int .i64 t389,.int .i64 t390] 51 (0,0)) (by (with_reducible repeat first|apply Y11|apply Y13|apply Y12);exact BK392.out)):gb392≠gb408))
           have n12_:=Y0 ((by rw [hg];exact Nat.ne_of_gt (blk_lt (g:=gb392) (o:=.cells #[.int .i64 t384,.string t385,.int .i64 t386,.int .i64 t387,.bool t388,.int .i64 t389,.int .i64 t390] 51 (0,0)) (by (with_reducible repeat first|apply Y11|apply Y13|apply Y12);exact BK392.out)):gb408≠gb392))
           clear BK372
           clear BK383
           clear BK392
           clear HB
           have BK372:=n0_
           have BK383:=n1_
           have BK392:=n2_
           have HB:=n3_
           have BK408:=n4_
           have GW408:=n5_
           have GE408:=n6_
           have NB372_408:=n7_
           have NB408_372:=n8_
           have NB383_408:=n9_
           have NB408_383:=n10_
           have NB392_408:=n11_
           have NB408_392:=n12_
           clear n0_ n1_ n2_ n3_ n4_ n5_ n6_ n7_ n8_ n9_ n10_ n11_ n12_
           clear hb hbox hg
           refine hK.out _ _ ⟨(blk_cell BK372.out 0).trans rfl,(blk_cell BK372.out 1).trans rfl,((HB.out.cell (World.block_lt_of_cell? w _ hw398_0)).trans hw398_0),((HB.out.cell (World.block_lt_of_cell? w _ hw398_1)).trans hw398_1),((HB.out.cell (World.block_lt_of_cell? w _ hw399_0)).trans hw399_0),((HB.out.cell (World.block_lt_of_cell? w _ hw399_1)).trans hw399_1),((HB.out.cell (World.block_lt_of_cell? w _ hw399_2)).trans hw399_2),((HB.out.cell (World.block_lt_of_cell? w _ hw399_3)).trans hw399_3),((HB.out.cell (World.block_lt_of_cell? w _ hw399_4)).trans hw399_4),((HB.out.cell (World.block_lt_of_cell? w _ hw399_5)).trans hw399_5),((HB.out.cell (World.block_lt_of_cell? w _ hw399_6)).trans hw399_6)⟩ (fun hHeld=>?_)
           clear hK K
           refine norm_ (a':=?_) ?_ ?_;rotate_left;show Act.put _ (some 16) _=_;simp only [Act.put,Y14,Y15,Y16];rfl
           refine one_ (i:=12) (N:=some 118) (sqB 19 73727) rfl rfl (one_of HT_.out (by kernel_rfl)) (by decide) (fun K hK=>?_)
           refine goes_ Tryz.func20 (by kernel_rfl) rfl #[.agg #[.slice (some ad394) l0_0.length c0_0,.slice A0_1 l0_1.length c0_1],.int .i64 a1,.string ((rd_T51 ((rd_T57 l0_0 a1).f1) x15_4).f1)] (by rfl) rfl rfl (by (try simp only [List.map_toArray,List.map_cons,List.map_nil]);first|done|rfl|(simp only [List.length_drop,List.length_take];rfl)) ?_
           with_reducible refine (table_Find.calls _ _ l0_0 _ _ l0_1 a1 ((rd_T51 ((rd_T57 l0_0 a1).f1) x15_4).f1) t400 t401 t402 t403 t404 t405 t406 true _ ?side1 ?side2 ?side3 ?side4 A98.out).mono ?_
           (case side1=>repeat (first|exact (Kd.C_below HR0_0.out HB.out)|(with_reducible refine Y8 ?_ _)|(with_reducible refine Kd.C_drewN ?_ _)|(with_reducible refine Kd.C_drew ?_)))
           (case side2=>exact HC0_0.out)
           (case side3=>repeat (first|exact (Kd.C_below HR0_1.out HB.out)|(with_reducible refine Y8 ?_ _)|(with_reducible refine Kd.C_drewN ?_ _)|(with_reducible refine Kd.C_drew ?_)))
           (case side4=>exact HC0_1.out)
           rintro e w109 ⟨rfl,hb⟩
           refine ⟨_,rfl,?_⟩
           have n0_:=Y0 (blk_below (g:=gb372) (o:=.cells #[.slice (some ad394) l0_0.length c0_0,.slice A0_1 l0_1.length c0_1] 46 (0,0)) (by (with_reducible repeat first|apply Y11|apply Y13|apply Y12);exact BK372.out) hb)
           have n1_:=Y0 (blk_below (g:=gb383) (o:=.cells #[.int .i64 t375,.string t376,.int .i64 t377,.int .i64 t378,.bool t379,.int .i64 t380,.int .i64 t381] 51 (0,0)) (by (with_reducible repeat first|apply Y11|apply Y13|apply Y12);exact BK383.out) hb)
           have n2_:=Y0 (blk_below (g:=gb392) (o:=.cells #[.int .i64 t384,.string t385,.int .i64 t386,.int .i64 t387,.bool t388,.int .i64 t389,.int .i64 t390] 51 (0,0)) (by (with_reducible repeat first|apply Y11|apply Y13|apply Y12);exact BK392.out) hb)
           have n3_:=Y0 (blk_below (g:=gb408) (o:=.cells #[.int .i64 0,.string (⟨#[]⟩:ByteArray),.int .i64 0,.int .i64 0,.bool false,.int .i64 0,.int .i64 0] 51 (0,0)) (by (with_reducible repeat first|apply Y11|apply Y13|apply Y12);exact BK408.out) hb)
           have n4_:=Y0 (below_step (by repeat (with_reducible first|exact HB.out|apply Y3|apply Y1|apply Y2|refine Y4 ?_ GE372.out|refine Y4 ?_ GE383.out|refine Y4 ?_ GE392.out|refine Y4 ?_ GE408.out)) hb)
           clear BK372
           clear BK383
           clear BK392
           clear BK408
           clear HB
           have BK372:=n0_
           have BK383:=n1_
           have BK392:=n2_
           have BK408:=n3_
           have HB:=n4_
           clear n0_ n1_ n2_ n3_ n4_
           (try clear hb)
           (try clear hb2)
           (try clear hk)
           (try clear hi)
           refine hK.out _ _ ⟨(blk_cell BK372.out 0).trans rfl,(blk_cell BK372.out 1).trans rfl,((HB.out.cell (World.block_lt_of_cell? w _ hw398_0)).trans hw398_0),((HB.out.cell (World.block_lt_of_cell? w _ hw398_1)).trans hw398_1),((HB.out.cell (World.block_lt_of_cell? w _ hw399_0)).trans hw399_0),((HB.out.cell (World.block_lt_of_cell? w _ hw399_1)).trans hw399_1),((HB.out.cell (World.block_lt_of_cell? w _ hw399_2)).trans hw399_2),((HB.out.cell (World.block_lt_of_cell? w _ hw399_3)).trans hw399_3),((HB.out.cell (World.block_lt_of_cell? w _ hw399_4)).trans hw399_4),((HB.out.cell (World.block_lt_of_cell? w _ hw399_5)).trans hw399_5),((HB.out.cell (World.block_lt_of_cell? w _ hw399_6)).trans hw399_6)⟩ (fun hHeld=>?_)
           clear hK K
           refine norm_ (a':=?_) ?_ ?_;rotate_left;show Act.put _ (some 118) _=_;simp only [Act.put,Y14,Y15,Y16];rfl
           refine pure_ (i:=13) (N:=some 105) (v:=?_) (a':=?_) (sqB 19 81919) rfl rfl (any_of HT_.out (by kernel_rfl)) (fun _ _ _ h=>h) (Or.inl ⟨by rfl,?_⟩) ?_ ?_;rotate_left;intro w';go_simp;with_reducible rfl;rotate_left;simp only [Act.put,Y14,Y15,Y16];rfl
           refine pure_ (i:=14) (N:=some 119) (v:=?_) (a':=?_) (sqB 19 98303) rfl rfl (any_of HT_.out (by kernel_rfl)) (fun _ _ _ h=>h) (Or.inl ⟨by rfl,?_⟩) ?_ ?_;rotate_left;intro w';go_simp;with_reducible rfl;rotate_left;simp only [Act.put,Y14,Y15,Y16];rfl
           refine pure_ (i:=15) (N:=some 120) (v:=?_) (a':=?_) (sqB 19 131071) rfl rfl (any_of HT_.out (by kernel_rfl)) (fun _ _ _ h=>h) (Or.inl ⟨by rfl,?_⟩) ?_ ?_;rotate_left;intro w';go_simp;with_reducible rfl;rotate_left;simp only [Act.put,Y14,Y15,Y16];rfl
           exact norm_ (by simp only [putAll,Act.put,List.setIfInBounds_toArray,List.set_cons_zero,List.set_cons_succ]) (hCont (gb408) _ ⟨hHeld,(by (with_reducible repeat first|apply Y11|apply Y13|apply Y12);exact BK372.out),(by (with_reducible repeat first|apply Y11|apply Y13|apply Y12);exact BK383.out),(by (with_reducible repeat first|apply Y11|apply Y13|apply Y12);exact BK392.out),(by (with_reducible repeat first|apply Y11|apply Y13|apply Y12);exact BK408.out),GW408.out,GE408.out,NB372_408.out,NB408_372.out,NB383_408.out,NB408_383.out,NB392_408.out,NB408_392.out,(by repeat (with_reducible first|exact HB.out|apply Y3|apply Y1|apply Y2|refine Y4 ?_ GE372.out|refine Y4 ?_ GE383.out|refine Y4 ?_ GE392.out|refine Y4 ?_ GE408.out))⟩)
         rintro gb408 w110 ⟨hS_,h0_,h1_,h2_,h3_,h4_,h5_,h6_,h7_,h8_,h9_,h10_,h11_,h12_⟩
         have n0_:Aside0 (w110.heap[gb372]?=some (.cells #[.slice (some ad394) l0_0.length c0_0,.slice A0_1 l0_1.length c0_1] 46 (0,0))):=⟨h0_⟩
         have n1_:Aside0 (w110.heap[gb383]?=some (.cells #[.int .i64 t375,.string t376,.int .i64 t377,.int .i64 t378,.bool t379,.int .i64 t380,.int .i64 t381] 51 (0,0))):=⟨h1_⟩
         have n2_:Aside0 (w110.heap[gb392]?=some (.cells #[.int .i64 t384,.string t385,.int .i64 t386,.int .i64 t387,.bool t388,.int .i64 t389,.int .i64 t390] 51 (0,0))):=⟨h2_⟩
         have n3_:Aside0 (w110.heap[gb408]?=some (.cells #[.int .i64 0,.string (⟨#[]⟩:ByteArray),.int .i64 0,.int .i64 0,.bool false,.int .i64 0,.int .i64 0] 51 (0,0))):=⟨h3_⟩
         have n4_:Aside0 (w.heap.size≤gb408):=⟨h4_⟩
         have n5_:Aside0 (w.heap.size≤gb408):=⟨h5_⟩
         have n6_:Aside0 (gb372≠gb408):=⟨h6_⟩
         have n7_:Aside0 (gb408≠gb372):=⟨h7_⟩
         have n8_:Aside0 (gb383≠gb408):=⟨h8_⟩
         have n9_:Aside0 (gb408≠gb383):=⟨h9_⟩
         have n10_:Aside0 (gb392≠gb408):=⟨h10_⟩
         have n11_:Aside0 (gb408≠gb392):=⟨h11_⟩
         have n12_:Aside0 (Below w.heap.size w w110):=⟨h12_⟩
         clear BK372
         clear BK383
         clear BK392
         clear HB
         clear h0_ h1_ h2_ h3_ h4_ h5_ h6_ h7_ h8_ h9_ h10_ h11_ h12_
         have BK372:=n0_
         have BK383:=n1_
         have BK392:=n2_
         have BK408:=n3_
         have GW408:=n4_
         have GE408:=n5_
         have NB372_408:=n6_
         have NB408_372:=n7_
         have NB383_408:=n8_
         have NB408_383:=n9_
         have NB392_408:=n10_
         have NB408_392:=n11_
         have HB:=n12_
         clear n0_ n1_ n2_ n3_ n4_ n5_ n6_ n7_ n8_ n9_ n10_ n11_ n12_
         have hHeld:w110.cell? ⟨gb372,0,none⟩=some (.slice (some ad394) l0_0.length c0_0)∧w110.cell? ⟨gb372,1,none⟩=some (.slice A0_1 l0_1.length c0_1)∧w110.cell? (ad394.add ((a1).toNat * 2))=some (.string ((rd_T57 l0_0 a1).f0))∧w110.cell? ⟨(ad394.add ((a1).toNat * 2)).block,(ad394.add ((a1).toNat * 2)).off + 1,none⟩=some (.slice (some ad399) ((rd_T57 l0_0 a1).f1).length c398_1)∧w110.cell? (ad399.add ((x15_4).toNat * 7))=some (.int .i64 ((rd_T51 ((rd_T57 l0_0 a1).f1) x15_4).f0))∧w110.cell? ⟨(ad399.add ((x15_4).toNat * 7)).block,(ad399.add ((x15_4).toNat * 7)).off + 1,none⟩=some (.string ((rd_T51 ((rd_T57 l0_0 a1).f1) x15_4).f1))∧w110.cell? ⟨(ad399.add ((x15_4).toNat * 7)).block,(ad399.add ((x15_4).toNat * 7)).off + 2,none⟩=some (.int .i64 ((rd_T51 ((rd_T57 l0_0 a1).f1) x15_4).f2))∧w110.cell? ⟨(ad399.add ((x15_4).toNat * 7)).block,(ad399.add ((x15_4).toNat * 7)).off + 3,none⟩=some (.int .i64 ((rd_T51 ((rd_T57 l0_0 a1).f1) x15_4).f3))∧w110.cell? ⟨(ad399.add ((x15_4).toNat * 7)).block,(ad399.add ((x15_4).toNat * 7)).off + 4,none⟩=some (.bool ((rd_T51 ((rd_T57 l0_0 a1).f1) x15_4).f4))∧w110.cell? ⟨(ad399.add ((x15_4).toNat * 7)).block,(ad399.add ((x15_4).toNat * 7)).off + 5,none⟩=some (.int .i64 ((rd_T51 ((rd_T57 l0_0 a1).f1) x15_4).f5))∧w110.cell? ⟨(ad399.add ((x15_4).toNat * 7)).block,(ad399.add ((x15_4).toNat * 7)).off + 6,none⟩=some (.int .i64 ((rd_T51 ((rd_T57 l0_0 a1).f1) x15_4).f6)):=hS_
         refine norm_ (a':=?_) ?_ ?_
         rotate_left
         ·simp only [putAll,Act.put,List.setIfInBounds_toArray,List.set_cons_zero,List.set_cons_succ]
          rfl
         refine one_ (i:=17) (N:=none) (sqB 19 262143) rfl rfl (one_of HT_.out (by kernel_rfl)) (by decide) (fun K hK=>?_)
         have hs111:w110.cell? ⟨gb408,0,none⟩=some (.int .i64 0):=(blk_cell BK408.out 0).trans rfl
         have hfs111:=blk_frozen BK408.out 0
         have hns111_0:=NB372_408.out
         have hns111_1:=NB383_408.out
         have hns111_2:=NB392_408.out
         have hms111_0:=NB408_372.out
         have hms111_1:=NB408_383.out
         have hms111_2:=NB408_392.out
         have hs112:w110.cell? ⟨gb408,1,none⟩=some (.string (⟨#[]⟩:ByteArray)):=(blk_cell BK408.out 1).trans rfl
         have hfs112:=blk_frozen BK408.out 1
         have hns112_0:=NB372_408.out
         have hns112_1:=NB383_408.out
         have hns112_2:=NB392_408.out
         have hms112_0:=NB408_372.out
         have hms112_1:=NB408_383.out
         have hms112_2:=NB408_392.out
         have hs113:w110.cell? ⟨gb408,2,none⟩=some (.int .i64 0):=(blk_cell BK408.out 2).trans rfl
         have hfs113:=blk_frozen BK408.out 2
         have hns113_0:=NB372_408.out
         have hns113_1:=NB383_408.out
         have hns113_2:=NB392_408.out
         have hms113_0:=NB408_372.out
         have hms113_1:=NB408_383.out
         have hms113_2:=NB408_392.out
         have hs114:w110.cell? ⟨gb408,3,none⟩=some (.int .i64 0):=(blk_cell BK408.out 3).trans rfl
         have hfs114:=blk_frozen BK408.out 3
         have hns114_0:=NB372_408.out
         have hns114_1:=NB383_408.out
         have hns114_2:=NB392_408.out
         have hms114_0:=NB408_372.out
         have hms114_1:=NB408_383.out
         have hms114_2:=NB408_392.out
         have hs115:w110.cell? ⟨gb408,4,none⟩=some (.bool false):=(blk_cell BK408.out 4).trans rfl
         have hfs115:=blk_frozen BK408.out 4
         have hns115_0:=NB372_408.out
         have hns115_1:=NB383_408.out
         have hns115_2:=NB392_408.out
         have hms115_0:=NB408_372.out
         have hms115_1:=NB408_383.out
         have hms115_2:=NB408_392.out
         have hs116:w110.cell? ⟨gb408,5,none⟩=some (.int .i64 0):=(blk_cell BK408.out 5).trans rfl
         have hfs116:=blk_frozen BK408.out 5
         have hns116_0:=NB372_408.out
         have hns116_1:=NB383_408.out
         have hns116_2:=NB392_408.out
         have hms116_0:=NB408_372.out
         have hms116_1:=NB408_383.out
         have hms116_2:=NB408_392.out
         have hs117:w110.cell? ⟨gb408,6,none⟩=some (.int .i64 0):=(blk_cell BK408.out 6).trans rfl
         have hfs117:=blk_frozen BK408.out 6
         have hns117_0:=NB372_408.out
         have hns117_1:=NB383_408.out
         have hns117_2:=NB392_408.out
         have hms117_0:=NB408_372.out
         have hms117_1:=NB408_383.out
         have hms117_2:=NB408_392.out
         refine skip_ (w1:=?_) (by rfl) rfl ?_ ?_
         rotate_left
         ·go_simp
          rfl
         refine hK.out _ _ ⟨(far_7 NB372_408.out (hHeld.1)),(far_7 NB372_408.out (hHeld.2.1)),(far_7 (by first|exact Nat.ne_of_lt (Nat.lt_of_lt_of_le (by have:=World.block_lt_of_cell? _ _ hw398_0;first|rwa [add_block] at this|exact this) GW408.out)|(rw [add_block];exact Nat.ne_of_lt (Nat.lt_of_lt_of_le (by have:=World.block_lt_of_cell? _ _ hw398_0;first|rwa [add_block] at this|exact this) GW408.out))|(show (Addr.add _ _).block≠_;rw [add_block];exact Nat.ne_of_lt (Nat.lt_of_lt_of_le (by have:=World.block_lt_of_cell? _ _ hw398_0;first|rwa [add_block] at this|exact this) GW408.out))|(dsimp only;exact Nat.ne_of_lt (Nat.lt_of_lt_of_le (by have:=World.block_lt_of_cell? _ _ hw398_0;first|rwa [add_block] at this|exact this) GW408.out))) (hHeld.2.2.1)),(far_7 (by first|exact Nat.ne_of_lt (Nat.lt_of_lt_of_le (by have:=World.block_lt_of_cell? _ _ hw398_1;first|rwa [add_block] at this|exact this) GW408.out)|(rw [add_block];exact Nat.ne_of_lt (Nat.lt_of_lt_of_le (by have:=World.block_lt_of_cell? _ _ hw398_1;first|rwa [add_block] at this|exact this) GW408.out))|(show (Addr.add _ _).block≠_;rw [add_block];exact Nat.ne_of_lt (Nat.lt_of_lt_of_le (by have:=World.block_lt_of_cell? _ _ hw398_1;first|rwa [add_block] at this|exact this) GW408.out))|(dsimp only;exact Nat.ne_of_lt (Nat.lt_of_lt_of_le (by have:=World.block_lt_of_cell? _ _ hw398_1;first|rwa [add_block] at this|exact this) GW408.out))) (hHeld.2.2.2.1)),(far_7 (by first|exact Nat.ne_of_lt (Nat.lt_of_lt_of_le (by have:=World.block_lt_of_cell? _ _ hw399_0;first|rwa [add_block] at this|exact this) GW408.out)|(rw [add_block];exact Nat.ne_of_lt (Nat.lt_of_lt_of_le (by have:=World.block_lt_of_cell? _ _ hw399_0;first|rwa [add_block] at this|exact this) GW408.out))|(show (Addr.add _ _).block≠_;rw [add_block];exact Nat.ne_of_lt (Nat.lt_of_lt_of_le (by have:=World.block_lt_of_cell? _ _ hw399_0;first|rwa [add_block] at this|exact this) GW408.out))|(dsimp only;exact Nat.ne_of_lt (Nat.lt_of_lt_of_le (by have:=World.block_lt_of_cell? _ _ hw399_0;first|rwa [add_block] at this|exact this) GW408.out))) (hHeld.2.2.2.2.1)),(far_7 (by first|exact Nat.ne_of_lt (Nat.lt_of_lt_of_le (by have:=World.block_lt_of_cell? _ _ hw399_1;first|rwa [add_block] at this|exact this) GW408.out)|(rw [add_block];exact Nat.ne_of_lt (Nat.lt_of_lt_of_le (by have:=World.block_lt_of_cell? _ _ hw399_1;first|rwa [add_block] at this|exact this) GW408.out))|(show (Addr.add _ _).block≠_;rw [add_block];exact Nat.ne_of_lt (Nat.lt_of_lt_of_le (by have:=World.block_lt_of_cell? _ _ hw399_1;first|rwa [add_block] at this|exact this) GW408.out))|(dsimp only;exact Nat.ne_of_lt (Nat.lt_of_lt_of_le (by have:=World.block_lt_of_cell? _ _ hw399_1;first|rwa [add_block] at this|exact this) GW408.out))) (hHeld.2.2.2.2.2.1)),(far_7 (by first|exact Nat.ne_of_lt (Nat.lt_of_lt_of_le (by have:=World.block_lt_of_cell? _ _ hw399_2;first|rwa [add_block] at this|exact this) GW408.out)|(rw [add_block];exact Nat.ne_of_lt (Nat.lt_of_lt_of_le (by have:=World.block_lt_of_cell? _ _ hw399_2;first|rwa [add_block] at this|exact this) GW408.out))|(show (Addr.add _ _).block≠_;rw [add_block];exact Nat.ne_of_lt (Nat.lt_of_lt_of_le (by have:=World.block_lt_of_cell? _ _ hw399_2;first|rwa [add_block] at this|exact this) GW408.out))|(dsimp only;exact Nat.ne_of_lt (Nat.lt_of_lt_of_le (by have:=World.block_lt_of_cell? _ _ hw399_2;first|rwa [add_block] at this|exact this) GW408.out))) (hHeld.2.2.2.2.2.2.1)),(far_7 (by first|exact Nat.ne_of_lt (Nat.lt_of_lt_of_le (by have:=World.block_lt_of_cell? _ _ hw399_3;first|rwa [add_block] at this|exact this) GW408.out)|(rw [add_block];exact Nat.ne_of_lt (Nat.lt_of_lt_of_le (by have:=World.block_lt_of_cell? _ _ hw399_3;first|rwa [add_block] at this|exact this) GW408.out))|(show (Addr.add _ _).block≠_;rw [add_block];exact Nat.ne_of_lt (Nat.lt_of_lt_of_le (by have:=World.block_lt_of_cell? _ _ hw399_3;first|rwa [add_block] at this|exact this) GW408.out))|(dsimp only;exact Nat.ne_of_lt (Nat.lt_of_lt_of_le (by have:=World.block_lt_of_cell? _ _ hw399_3;first|rwa [add_block] at this|exact this) GW408.out))) (hHeld.2.2.2.2.2.2.2.1)),(far_7 (by first|exact Nat.ne_of_lt (Nat.lt_of_lt_of_le (by have:=World.block_lt_of_cell? _ _ hw399_4;first|rwa [add_block] at this|exact this) GW408.out)|(rw [add_block];exact Nat.ne_of_lt (Nat.lt_of_lt_of_le (by have:=World.block_lt_of_cell? _ _ hw399_4;first|rwa [add_block] at this|exact this) GW408.out))|(show (Addr.add _ _).block≠_;rw [add_block];exact Nat.ne_of_lt (Nat.lt_of_lt_of_le (by have:=World.block_lt_of_cell? _ _ hw399_4;first|rwa [add_block] at this|exact this) GW408.out))|(dsimp only;exact Nat.ne_of_lt (Nat.lt_of_lt_of_le (by have:=World.block_lt_of_cell? _ _ hw399_4;first|rwa [add_block] at this|exact this) GW408.out))) (hHeld.2.2.2.2.2.2.2.2.1)),(far_7 (by first|exact Nat.ne_of_lt (Nat.lt_of_lt_of_le (by have:=World.block_lt_of_cell? _ _ hw399_5;first|rwa [add_block] at this|exact this) GW408.out)|(rw [add_block];exact Nat.ne_of_lt (Nat.lt_of_lt_of_le (by have:=World.block_lt_of_cell? _ _ hw399_5;first|rwa [add_block] at this|exact this) GW408.out))|(show (Addr.add _ _).block≠_;rw [add_block];exact Nat.ne_of_lt (Nat.lt_of_lt_of_le (by have:=World.block_lt_of_cell? _ _ hw399_5;first|rwa [add_block] at this|exact this) GW408.out))|(dsimp only;exact Nat.ne_of_lt (Nat.lt_of_lt_of_le (by have:=World.block_lt_of_cell? _ _ hw399_5;first|rwa [add_block] at this|exact this) GW408.out))) (hHeld.2.2.2.2.2.2.2.2.2.1)),(far_7 (by first|exact Nat.ne_of_lt (Nat.lt_of_lt_of_le (by have:=World.block_lt_of_cell? _ _ hw399_6;first|rwa [add_block] at this|exact this) GW408.out)|(rw [add_block];exact Nat.ne_of_lt (Nat.lt_of_lt_of_le (by have:=World.block_lt_of_cell? _ _ hw399_6;first|rwa [add_block] at this|exact this) GW408.out))|(show (Addr.add _ _).block≠_;rw [add_block];exact Nat.ne_of_lt (Nat.lt_of_lt_of_le (by have:=World.block_lt_of_cell? _ _ hw399_6;first|rwa [add_block] at this|exact this) GW408.out))|(dsimp only;exact Nat.ne_of_lt (Nat.lt_of_lt_of_le (by have:=World.block_lt_of_cell? _ _ hw399_6;first|rwa [add_block] at this|exact this) GW408.out))) (hHeld.2.2.2.2.2.2.2.2.2.2))⟩ (fun hHeld=>?_)
         clear hK K
         refine pure_ (i:=18) (N:=some 17) (v:=?_) (a':=?_) (sqB 19 524287) rfl rfl (any_of HT_.out (by kernel_rfl)) (fun _ _ _ h=>h) (Or.inl ⟨by rfl,?_⟩) ?_ ?_;rotate_left;intro w';go_simp;with_reducible rfl;rotate_left;simp only [Act.put,Y14,Y15,Y16];rfl
         refine done_ (done_of HT_.out (by kernel_rfl)) ?_
         try go_wp2
         have n0_:Aside0 ((((((((w110.setCell ⟨gb408,0,none⟩ (.int .i64 t400)).setCell ⟨gb408,1,none⟩ (.string t401)).setCell ⟨gb408,2,none⟩ (.int .i64 t402)).setCell ⟨gb408,3,none⟩ (.int .i64 t403)).setCell ⟨gb408,4,none⟩ (.bool t404)).setCell ⟨gb408,5,none⟩ (.int .i64 t405)).setCell ⟨gb408,6,none⟩ (.int .i64 t406)).heap[gb372]?=some (.cells #[.slice (some ad394) l0_0.length c0_0,.slice A0_1 l0_1.length c0_1] 46 (0,0))):=⟨by (with_reducible repeat first|apply Y11|apply Y13|apply Y12);refine blk_far ?_ NB372_408.out _;(with_reducible repeat first|apply Y11|apply Y13|apply Y12);refine blk_far ?_ NB372_408.out _;(with_reducible repeat first|apply Y11|apply Y13|apply Y12);refine blk_far ?_ NB372_408.out _;(with_reducible repeat first|apply Y11|apply Y13|apply Y12);refine blk_far ?_ NB372_408.out _;(with_reducible repeat first|apply Y11|apply Y13|apply Y12);refine blk_far ?_ NB372_408.out _;(with_reducible repeat first|apply Y11|apply Y13|apply Y12);refine blk_far ?_ NB372_408.out _;(with_reducible repeat first|apply Y11|apply Y13|apply Y12);refine blk_far ?_ NB372_408.out _;(with_reducible repeat first|apply Y11|apply Y13|apply Y12);exact BK372.out⟩
         have n1_:Aside0 ((((((((w110.setCell ⟨gb408,0,none⟩ (.int .i64 t400)).setCell ⟨gb408,1,none⟩ (.string t401)).setCell ⟨gb408,2,none⟩ (.int .i64 t402)).setCell ⟨gb408,3,none⟩ (.int .i64 t403)).setCell ⟨gb408,4,none⟩ (.bool t404)).setCell ⟨gb408,5,none⟩ (.int .i64 t405)).setCell ⟨gb408,6,none⟩ (.int .i64 t406)).heap[gb383]?=some (.cells #[.int .i64 t375,.string t376,.int .i64 t377,.int .i64 t378,.bool t379,.int .i64 t380,.int .i64 t381] 51 (0,0))):=⟨by (with_reducible repeat first|apply Y11|apply Y13|apply Y12);refine blk_far ?_ NB383_408.out _;(with_reducible repeat first|apply Y11|apply Y13|apply Y12);refine blk_far ?_ NB383_408.out _;(with_reducible repeat first|apply Y11|apply Y13|apply Y12);refine blk_far ?_ NB383_408.out _;(with_reducible repeat first|apply Y11|apply Y13|apply Y12);refine blk_far ?_ NB383_408.out _;(with_reducible repeat first|apply Y11|apply Y13|apply Y12);refine blk_far ?_ NB383_408.out _;(with_reducible repeat first|apply Y11|apply Y13|apply Y12);refine blk_far ?_ NB383_408.out _;(with_reducible repeat first|apply Y11|apply Y13|apply Y12);refine blk_far ?_ NB383_408.out _;(with_reducible repeat first|apply Y11|apply Y13|apply Y12);exact BK383.out⟩
         have n2_:Aside0 ((((((((w110.setCell ⟨gb408,0,none⟩ (.int .i64 t400)).setCell ⟨gb408,1,none⟩ (.string t401)).setCell ⟨gb408,2,none⟩ (.int .i64 t402)).setCell ⟨gb408,3,none⟩ (.int .i64 t403)).setCell ⟨gb408,4,none⟩ (.bool t404)).setCell ⟨gb408,5,none⟩ (.int .i64 t405)).setCell ⟨gb408,6,none⟩ (.int .i64 t406)).heap[gb392]?=some (.cells #[.int .i64 t384,.string t385,.int .i64 t386,.int .i64 t387,.bool t388,.int .i64 t389,.int .i64 t390] 51 (0,0))):=⟨by (with_reducible repeat first|apply Y11|apply Y13|apply Y12);refine blk_far ?_ NB392_408.out _;(with_reducible repeat first|apply Y11|apply Y13|apply Y12);refine blk_far ?_ NB392_408.out _;(with_reducible repeat first|apply Y11|apply Y13|apply Y12);refine blk_far ?_ NB392_408.out _;(with_reducible repeat first|apply Y11|apply Y13|apply Y12);refine blk_far ?_ NB392_408.out _;(with_reducible repeat first|apply Y11|apply Y13|apply Y12);refine blk_far ?_ NB392_408.out _;(with_reducible repeat first|apply Y11|apply Y13|apply Y12);refine blk_far ?_ NB392_408.out _;(with_reducible repeat first|apply Y11|apply Y13|apply Y12);refine blk_far ?_ NB392_408.out _;(with_reducible repeat first|apply Y11|apply Y13|apply Y12);exact BK392.out⟩
         have n3_:Aside0 ((((((((w110.setCell ⟨gb408,0,none⟩ (.int .i64 t400)).setCell ⟨gb408,1,none⟩ (.string t401)).setCell ⟨gb408,2,none⟩ (.int .i64 t402)).setCell ⟨gb408,3,none⟩ (.int .i64 t403)).setCell ⟨gb408,4,none⟩ (.bool t404)).setCell ⟨gb408,5,none⟩ (.int .i64 t405)).setCell ⟨gb408,6,none⟩ (.int .i64 t406)).heap[gb408]?=some (.cells #[.int .i64 t400,.string t401,.int .i64 t402,.int .i64 t403,.bool t404,.int .i64 t405,.int .i64 t406] 51 (0,0))):=⟨by (with_reducible repeat first|apply Y11|apply Y13|apply Y12);refine blk_put (cs:=#[.int .i64 t400,.string t401,.int .i64 t402,.int .i64 t403,.bool t404,.int .i64 t405,.int .i64 0]) ?_ 6 _ rfl;(with_reducible repeat first|apply Y11|apply Y13|apply Y12);refine blk_put (cs:=#[.int .i64 t400,.string t401,.int .i64 t402,.int .i64 t403,.bool t404,.int .i64 0,.int .i64 0]) ?_ 5 _ rfl;(with_reducible repeat first|apply Y11|apply Y13|apply Y12);refine blk_put (cs:=#[.int .i64 t400,.string t401,.int .i64 t402,.int .i64 t403,.bool false,.int .i64 0,.int .i64 0]) ?_ 4 _ rfl;(with_reducible repeat first|apply Y11|apply Y13|apply Y12);refine blk_put (cs:=#[.int .i64 t400,.string t401,.int .i64 t402,.int .i64 0,.bool false,.int .i64 0,.int .i64 0]) ?_ 3 _ rfl;(with_reducible repeat first|apply Y11|apply Y13|apply Y12);refine blk_put (cs:=#[.int .i64 t400,.string t401,.int .i64 0,.int .i64 0,.bool false,.int .i64 0,.int .i64 0]) ?_ 2 _ rfl;(with_reducible repeat first|apply Y11|apply Y13|apply Y12);refine blk_put (cs:=#[.int .i64 t400,.string (⟨#[]⟩:ByteArray),.int .i64 0,.int .i64 0,.bool false,.int .i64 0,.int .i64 0]) ?_ 1 _ rfl;(with_reducible repeat first|apply Y11|apply Y13|apply Y12);refine blk_put (cs:=#[.int .i64 0,.string (⟨#[]⟩:ByteArray),.int .i64 0,.int .i64 0,.bool false,.int .i64 0,.int .i64 0]) ?_ 0 _ rfl;(with_reducible repeat first|apply Y11|apply Y13|apply Y12);exact BK408.out⟩
         have n4_:Aside0 (Below w.heap.size w (((((((w110.setCell ⟨gb408,0,none⟩ (.int .i64 t400)).setCell ⟨gb408,1,none⟩ (.string t401)).setCell ⟨gb408,2,none⟩ (.int .i64 t402)).setCell ⟨gb408,3,none⟩ (.int .i64 t403)).setCell ⟨gb408,4,none⟩ (.bool t404)).setCell ⟨gb408,5,none⟩ (.int .i64 t405)).setCell ⟨gb408,6,none⟩ (.int .i64 t406))):=⟨by repeat (with_reducible first|exact HB.out|apply Y3|apply Y1|apply Y2|refine Y4 ?_ GE372.out|refine Y4 ?_ GE383.out|refine Y4 ?_ GE392.out|refine Y4 ?_ GE408.out)⟩
         (try clear BK372)
         (try clear BK383)
         (try clear BK392)
         (try clear BK408)
         (try clear HB)
         generalize (((((((w110.setCell ⟨gb408,0,none⟩ (.int .i64 t400)).setCell ⟨gb408,1,none⟩ (.string t401)).setCell ⟨gb408,2,none⟩ (.int .i64 t402)).setCell ⟨gb408,3,none⟩ (.int .i64 t403)).setCell ⟨gb408,4,none⟩ (.bool t404)).setCell ⟨gb408,5,none⟩ (.int .i64 t405)).setCell ⟨gb408,6,none⟩ (.int .i64 t406))=w118 at n0_ n1_ n2_ n3_ n4_ ⊢
         have BK372:=n0_
         have BK383:=n1_
         have BK392:=n2_
         have BK408:=n3_
         have HB:=n4_
         clear n0_ n1_ n2_ n3_ n4_
         have n0_:=Y0 (blk_drew BK372.out)
         have n1_:=Y0 (blk_drew BK383.out)
         have n2_:=Y0 (blk_drew BK392.out)
         have n3_:=Y0 (blk_drew BK408.out)
         have n4_:=Y0 (below_drew1 HB.out)
         clear BK372
         clear BK383
         clear BK392
         clear BK408
         clear HB
         have BK372:=n0_
         have BK383:=n1_
         have BK392:=n2_
         have BK408:=n3_
         have HB:=n4_
         clear n0_ n1_ n2_ n3_ n4_
         have p409:0≤(a1:Int):=of_decide_eq_true (by first|(with_reducible assumption)|assumption)
         have q409:a1 < (l0_0.length:Int):=of_decide_eq_true (by first|(with_reducible assumption)|assumption)
         obtain ⟨ad409,A409_1,c409_1,e409,hx409_0,hx409_1,hl409_1,hi409_1⟩:=at_T57 HR0_0.out a1 p409 q409
         have hw409_1:=hx409_1
         have hw409_0:=hx409_0
         obtain rfl:ad394=ad409:=(by injection e409)
         replace hx409_0:=(HB.out.cell (World.block_lt_of_cell? w _ hx409_0)).trans hx409_0
         replace hx409_1:=(HB.out.cell (World.block_lt_of_cell? w _ hx409_1)).trans hx409_1
         have HR409_1:=Y0 hi409_1
         have HC409_1:=Y0 hl409_1
         clear hi409_1 hl409_1
         replace p409:=eq_true p409
         replace q409:=eq_true q409
         have p410:0≤(x15_4:Int):=of_decide_eq_true (by first|(with_reducible assumption)|assumption)
         have q410:x15_4 < (((rd_T57 l0_0 a1).f1).length:Int):=of_decide_eq_true (by first|(with_reducible assumption)|assumption)
         obtain ⟨ad410,e410,hx410_0,hx410_1,hx410_2,hx410_3,hx410_4,hx410_5,hx410_6⟩:=at_T51 HR409_1.out x15_4 p410 q410
         have hw410_6:=hx410_6
         have hw410_5:=hx410_5
         have hw410_4:=hx410_4
         have hw410_3:=hx410_3
         have hw410_2:=hx410_2
         have hw410_1:=hx410_1
         have hw410_0:=hx410_0
         cases e410
         replace hx410_0:=(HB.out.cell (World.block_lt_of_cell? w _ hx410_0)).trans hx410_0
         replace hx410_1:=(HB.out.cell (World.block_lt_of_cell? w _ hx410_1)).trans hx410_1
         replace hx410_2:=(HB.out.cell (World.block_lt_of_cell? w _ hx410_2)).trans hx410_2
         replace hx410_3:=(HB.out.cell (World.block_lt_of_cell? w _ hx410_3)).trans hx410_3
         replace hx410_4:=(HB.out.cell (World.block_lt_of_cell? w _ hx410_4)).trans hx410_4
         replace hx410_5:=(HB.out.cell (World.block_lt_of_cell? w _ hx410_5)).trans hx410_5
         replace hx410_6:=(HB.out.cell (World.block_lt_of_cell? w _ hx410_6)).trans hx410_6
         replace p410:=eq_true p410
         replace q410:=eq_true q410
         refine start_ (n:=19) (S:=fun w'=>w'.cell? ⟨gb372,0,none⟩=some (.slice (some ad394) l0_0.length c0_0)∧w'.cell? ⟨gb372,1,none⟩=some (.slice A0_1 l0_1.length c0_1)∧w'.cell? (ad394.add ((a1).toNat * 2))=some (.string ((rd_T57 l0_0 a1).f0))∧w'.cell? ⟨(ad394.add ((a1).toNat * 2)).block,(ad394.add ((a1).toNat * 2)).off + 1,none⟩=some (.slice (some ad410) ((rd_T57 l0_0 a1).f1).length c409_1)∧w'.cell? (ad410.add ((x15_4).toNat * 7))=some (.int .i64 ((rd_T51 ((rd_T57 l0_0 a1).f1) x15_4).f0))∧w'.cell? ⟨(ad410.add ((x15_4).toNat * 7)).block,(ad410.add ((x15_4).toNat * 7)).off + 1,none⟩=some (.string ((rd_T51 ((rd_T57 l0_0 a1).f1) x15_4).f1))∧w'.cell? ⟨(ad410.add ((x15_4).toNat * 7)).block,(ad410.add ((x15_4).toNat * 7)).off + 2,none⟩=some (.int .i64 ((rd_T51 ((rd_T57 l0_0 a1).f1) x15_4).f2))∧w'.cell? ⟨(ad410.add ((x15_4).toNat * 7)).block,(ad410.add ((x15_4).toNat * 7)).off + 3,none⟩=some (.int .i64 ((rd_T51 ((rd_T57 l0_0 a1).f1) x15_4).f3))∧w'.cell? ⟨(ad410.add ((x15_4).toNat * 7)).block,(ad410.add ((x15_4).toNat * 7)).off + 4,none⟩=some (.bool ((rd_T51 ((rd_T57 l0_0 a1).f1) x15_4).f4))∧w'.cell? ⟨(ad410.add ((x15_4).toNat * 7)).block,(ad410.add ((x15_4).toNat * 7)).off + 5,none⟩=some (.int .i64 ((rd_T51 ((rd_T57 l0_0 a1).f1) x15_4).f5))∧w'.cell? ⟨(ad410.add ((x15_4).toNat * 7)).block,(ad410.add ((x15_4).toNat * 7)).off + 6,none⟩=some (.int .i64 ((rd_T51 ((rd_T57 l0_0 a1).f1) x15_4).f6))) (ds:=[]) #[false,false,false,false,false,false,false,false,false,false,false,false,false,false,false,false,false,false,false] (by kernel_rfl) rfl rfl ⟨(blk_cell BK372.out 0).trans rfl,(blk_cell BK372.out 1).trans rfl,((HB.out.cell (World.block_lt_of_cell? w _ hw409_0)).trans hw409_0),((HB.out.cell (World.block_lt_of_cell? w _ hw409_1)).trans hw409_1),((HB.out.cell (World.block_lt_of_cell? w _ hw410_0)).trans hw410_0),((HB.out.cell (World.block_lt_of_cell? w _ hw410_1)).trans hw410_1),((HB.out.cell (World.block_lt_of_cell? w _ hw410_2)).trans hw410_2),((HB.out.cell (World.block_lt_of_cell? w _ hw410_3)).trans hw410_3),((HB.out.cell (World.block_lt_of_cell? w _ hw410_4)).trans hw410_4),((HB.out.cell (World.block_lt_of_cell? w _ hw410_5)).trans hw410_5),((HB.out.cell (World.block_lt_of_cell? w _ hw410_6)).trans hw410_6)⟩ (fun hHeld=>?_);refine with_tabW trufflelaw08_TableFinds.tab15 trufflelaw08_TableFinds.bits15 (fun HT_ HW_=>?_)
         generalize w118.drew=w119 at BK372 BK383 BK392 BK408 HB HR409_1 hx409_0 hx409_1 hx410_0 hx410_1 hx410_2 hx410_3 hx410_4 hx410_5 hx410_6 hHeld ⊢
         refine pure_ (i:=1) (N:=some 123) (v:=?_) (a':=?_) (sqB 19 2) rfl rfl (any_of HT_.out (by kernel_rfl)) (fun _ _ _ h=>h) (Or.inl ⟨by rfl,?_⟩) ?_ ?_;rotate_left;intro w';go_simp;with_reducible rfl;rotate_left;simp only [Act.put,Y14,Y15,Y16];rfl
         refine pure_ (i:=2) (N:=some 124) (v:=?_) (a':=?_) (sqB 19 6) rfl rfl (any_of HT_.out (by kernel_rfl)) (fun _ _ _ h=>h) (Or.inl ⟨by rfl,?_⟩) ?_ ?_;rotate_left;intro w';go_simp;with_reducible rfl;rotate_left;simp only [Act.put,Y14,Y15,Y16];rfl
         refine pure_ (i:=4) (N:=some 126) (v:=?_) (a':=?_) (sqB 19 22) rfl rfl (any_of HT_.out (by kernel_rfl)) (fun _ _ _ h=>h) (Or.inl ⟨by rfl,?_⟩) ?_ ?_;rotate_left;intro w';go_simp;with_reducible rfl;rotate_left;simp only [Act.put,Y14,Y15,Y16];rfl
         refine pure_ (i:=8) (N:=some 130) (v:=?_) (a':=?_) (sqB 19 278) rfl rfl (any_of HT_.out (by kernel_rfl)) (fun _ _ _ h=>h) (Or.inl ⟨by rfl,?_⟩) ?_ ?_;rotate_left;intro w';go_simp;with_reducible rfl;rotate_left;simp only [Act.put,Y14,Y15,Y16];rfl
         refine take_ (i:=0) (N:=some 122) (v:=?_) (a':=?_) (sqB 19 279) rfl rfl (take_ofW HT_.out HW_.out (by kernel_rfl)) (fun _ _ _ h=>h) (Or.inl ⟨by rfl,?_⟩) hHeld ?_ ?_;rotate_left;rintro w' ⟨s0,s1,s2,s3,s4,s5,s6,s7,s8,s9,s10⟩;go_simp;with_reducible rfl;rotate_left;simp only [Act.put,Y14,Y15,Y16];rfl
         refine take_ (i:=3) (N:=some 125) (v:=?_) (a':=?_) (sqB 19 287) rfl rfl (take_ofW HT_.out HW_.out (by kernel_rfl)) (fun _ _ _ h=>h) (Or.inl ⟨by rfl,?_⟩) hHeld ?_ ?_;rotate_left;rintro w' ⟨s0,s1,s2,s3,s4,s5,s6,s7,s8,s9,s10⟩;go_simp;with_reducible rfl;rotate_left;simp only [Act.put,Y14,Y15,Y16];rfl
         refine pure_ (i:=5) (N:=some 127) (v:=?_) (a':=?_) (sqB 19 319) rfl rfl (any_of HT_.out (by kernel_rfl)) (fun _ _ _ h=>h) (Or.inl ⟨by rfl,?_⟩) ?_ ?_;rotate_left;intro w';go_simp;with_reducible rfl;rotate_left;simp only [Act.put,Y14,Y15,Y16];rfl
         refine pure_ (i:=6) (N:=some 128) (v:=?_) (a':=?_) (sqB 19 383) rfl rfl (any_of HT_.out (by kernel_rfl)) (fun _ _ _ h=>h) (Or.inl ⟨by rfl,?_⟩) ?_ ?_;rotate_left;intro w';go_simp;with_reducible rfl;rotate_left;simp only [Act.put,Y14,Y15,Y16];rfl
         refine take_ (i:=7) (N:=some 129) (v:=?_) (a':=?_) (sqB 19 511) rfl rfl (take_ofW HT_.out HW_.out (by kernel_rfl)) (fun _ _ _ h=>h) (Or.inl ⟨by rfl,?_⟩) hHeld ?_ ?_;rotate_left;rintro w' ⟨s0,s1,s2,s3,s4,s5,s6,s7,s8,s9,s10⟩;go_simp;with_reducible rfl;rotate_left;simp only [Act.put,Y14,Y15,Y16];rfl
         refine pure_ (i:=9) (N:=some 131) (v:=?_) (a':=?_) (sqB 19 1023) rfl rfl (any_of HT_.out (by kernel_rfl)) (fun _ _ _ h=>h) (Or.inl ⟨by rfl,?_⟩) ?_ ?_;rotate_left;intro w';go_simp;with_reducible rfl;rotate_left;simp only [Act.put,Y14,Y15,Y16];rfl
         refine pure_ (i:=10) (N:=some 132) (v:=?_) (a':=?_) (sqB 19 2047) rfl rfl (any_of HT_.out (by kernel_rfl)) (fun _ _ _ h=>h) (Or.inl ⟨by rfl,?_⟩) ?_ ?_;rotate_left;intro w';go_simp;with_reducible rfl;rotate_left;simp only [Act.put,Y14,Y15,Y16];rfl
         refine take_ (i:=11) (N:=some 133) (v:=?_) (a':=?_) (sqB 19 4095) rfl rfl (take_ofW HT_.out HW_.out (by kernel_rfl)) (fun _ _ _ h=>h) (Or.inl ⟨by rfl,?_⟩) hHeld ?_ ?_;rotate_left;rintro w' ⟨s0,s1,s2,s3,s4,s5,s6,s7,s8,s9,s10⟩;go_simp;with_reducible rfl;rotate_left;simp only [Act.put,Y14,Y15,Y16];rfl
         refine join_ (σ:=Nat) 2 #[true,true,true,true,true,true,true,true,true,true,true,true,true,true,true,true,true,false,false] (fun s_=>[(134,.tuple #[.agg #[.int .i64 t411,.string t412,.int .i64 t413,.int .i64 t414,.bool t415,.int .i64 t416,.int .i64 t417],.bool true]),(18,.pointer (some ⟨s_,0,none⟩)),(121,.tuple #[.agg #[.int .i64 t411,.string t412,.int .i64 t413,.int .i64 t414,.bool t415,.int .i64 t416,.int .i64 t417],.bool true]),(135,.agg #[.int .i64 t411,.string t412,.int .i64 t413,.int .i64 t414,.bool t415,.int .i64 t416,.int .i64 t417]),(136,.bool true)]) (fun s_ w'=>(w'.cell? ⟨gb372,0,none⟩=some (.slice (some ad394) l0_0.length c0_0)∧w'.cell? ⟨gb372,1,none⟩=some (.slice A0_1 l0_1.length c0_1)∧w'.cell? (ad394.add ((a1).toNat * 2))=some (.string ((rd_T57 l0_0 a1).f0))∧w'.cell? ⟨(ad394.add ((a1).toNat * 2)).block,(ad394.add ((a1).toNat * 2)).off + 1,none⟩=some (.slice (some ad410) ((rd_T57 l0_0 a1).f1).length c409_1)∧w'.cell? (ad410.add ((x15_4).toNat * 7))=some (.int .i64 ((rd_T51 ((rd_T57 l0_0 a1).f1) x15_4).f0))∧w'.cell? ⟨(ad410.add ((x15_4).toNat * 7)).block,(ad410.add ((x15_4).toNat * 7)).off + 1,none⟩=some (.string ((rd_T51 ((rd_T57 l0_0 a1).f1) x15_4).f1))∧w'.cell? ⟨(ad410.add ((x15_4).toNat * 7)).block,(ad410.add ((x15_4).toNat * 7)).off + 2,none⟩=some (.int .i64 ((rd_T51 ((rd_T57 l0_0 a1).f1) x15_4).f2))∧w'.cell? ⟨(ad410.add ((x15_4).toNat * 7)).block,(ad410.add ((x15_4).toNat * 7)).off + 3,none⟩=some (.int .i64 ((rd_T51 ((rd_T57 l0_0 a1).f1) x15_4).f3))∧w'.cell? ⟨(ad410.add ((x15_4).toNat * 7)).block,(ad410.add ((x15_4).toNat * 7)).off + 4,none⟩=some (.bool ((rd_T51 ((rd_T57 l0_0 a1).f1) x15_4).f4))∧w'.cell? ⟨(ad410.add ((x15_4).toNat * 7)).block,(ad410.add ((x15_4).toNat * 7)).off + 5,none⟩=some (.int .i64 ((rd_T51 ((rd_T57 l0_0 a1).f1) x15_4).f5))∧w'.cell? ⟨(ad410.add ((x15_4).toNat * 7)).block,(ad410.add ((x15_4).toNat * 7)).off + 6,none⟩=some (.int .i64 ((rd_T51 ((rd_T57 l0_0 a1).f1) x15_4).f6)))∧(w'.heap[gb372]?=some (.cells #[.slice (some ad394) l0_0.length c0_0,.slice A0_1 l0_1.length c0_1] 46 (0,0)))∧(w'.heap[gb383]?=some (.cells #[.int .i64 t375,.string t376,.int .i64 t377,.int .i64 t378,.bool t379,.int .i64 t380,.int .i64 t381] 51 (0,0)))∧(w'.heap[gb392]?=some (.cells #[.int .i64 t384,.string t385,.int .i64 t386,.int .i64 t387,.bool t388,.int .i64 t389,.int .i64 t390] 51 (0,0)))∧(w'.heap[gb408]?=some (.cells #[.int .i64 t400,.string t401,.int .i64 t402,.int .i64 t403,.bool t404,.int .i64 t405,.int .i64 t406] 51 (0,0)))∧(w'.heap[s_]?=some (.cells #[.int .i64 0,.string (⟨#[]⟩:ByteArray),.int .i64 0,.int .i64 0,.bool false,.int .i64 0,.int .i64 0] 51 (0,0)))∧(w.heap.size≤s_)∧(w.heap.size≤s_)∧(gb372≠s_)∧(s_≠gb372)∧(gb383≠s_)∧(s_≠gb383)∧(gb392≠s_)∧(s_≠gb392)∧(gb408≠s_)∧(s_≠gb408)∧(Below w.heap.size w w')) ?_ ?_
         rotate_left
         ·intro hCont
          refine two_ (i:=12) (j:=16) (Ni:=some 134) (Nj:=some 18) #[true,true,true,true,true,true,true,true,true,true,true,true,true,false,false,false,false,false,false] #[true,true,true,true,true,true,true,true,true,true,true,true,false,false,false,false,true,false,false] rfl rfl rfl rfl (two_of HT_.out (by kernel_rfl)) (by decide) (by decide) (fun K hK=>?_) (fun K hK=>?_)
          ·skip
           refine goes_ Tryz.func21 (by kernel_rfl) rfl #[.agg #[.slice (some ad394) l0_0.length c0_0,.slice A0_1 l0_1.length c0_1],.int .i64 a1,.int .i64 ((rd_T51 ((rd_T57 l0_0 a1).f1) x15_4).f0)] (by rfl) rfl rfl (by (try simp only [List.map_toArray,List.map_cons,List.map_nil]);first|done|rfl|(simp only [List.length_drop,List.length_take];rfl)) ?_
           with_reducible refine (table_By.calls _ _ l0_0 _ _ l0_1 a1 ((rd_T51 ((rd_T57 l0_0 a1).f1) x15_4).f0) t411 t412 t413 t414 t415 t416 t417 true _ ?side1 ?side2 ?side3 ?side4 A99.out).mono ?_
           (case side1=>repeat (first|exact (Kd.C_below HR0_0.out HB.out)|(with_reducible refine Y8 ?_ _)|(with_reducible refine Kd.C_drewN ?_ _)|(with_reducible refine Kd.C_drew ?_)))
           (case side2=>exact HC0_0.out)
           (case side3=>repeat (first|exact (Kd.C_below HR0_1.out HB.out)|(with_reducible refine Y8 ?_ _)|(with_reducible refine Kd.C_drewN ?_ _)|(with_reducible refine Kd.C_drew ?_)))
           (case side4=>exact HC0_1.out)
           rintro e w120 ⟨rfl,hb⟩
           refine ⟨_,rfl,?_⟩
           have n0_:=Y0 (blk_below (g:=gb372) (o:=.cells #[.slice (some ad394) l0_0.length c0_0,.slice A0_1 l0_1.length c0_1] 46 (0,0)) (by (with_reducible repeat first|apply Y11|apply Y13|apply Y12);exact BK372.out) hb)
           have n1_:=Y0 (blk_below (g:=gb383) (o:=.cells #[.int .i64 t375,.string t376,.int .i64 t377,.int .i64 t378,.bool t379,.int .i64 t380,.int .i64 t381] 51 (0,0)) (by (with_reducible repeat first|apply Y11|apply Y13|apply Y12);exact BK383.out) hb)
           have n2_:=Y0 (blk_below (g:=gb392) (o:=.cells #[.int .i64 t384,.string t385,.int .i64 t386,.int .i64 t387,.bool t388,.int .i64 t389,.int .i64 t390] 51 (0,0)) (by (with_reducible repeat first|apply Y11|apply Y13|apply Y12);exact BK392.out) hb)
           have n3_:=Y0 (blk_below (g:=gb408) (o:=.cells #[.int .i64 t400,.string t401,.int .i64 t402,.int .i64 t403,.bool t404,.int .i64 t405,.int .i64 t406] 51 (0,0)) (by (with_reducible repeat first|apply Y11|apply Y13|apply Y12);exact BK408.out) hb)
           have n4_:=Y0 (below_step (by repeat (with_reducible first|exact HB.out|apply Y3|apply Y1|apply Y2|refine Y4 ?_ GE372.out|refine Y4 ?_ GE383.out|refine Y4 ?_ GE392.out|refine Y4 ?_ GE408.out)) hb)
           clear BK372
           clear BK383
           clear BK392
           clear BK408
           clear HB
           have BK372:=n0_
           have BK383:=n1_
           have BK392:=n2_
           have BK408:=n3_
           have HB:=n4_
           clear n0_ n1_ n2_ n3_ n4_
           (try clear hb)
           (try clear hb2)
           (try clear hk)
           (try clear hi)
           refine hK.out _ _ ⟨(blk_cell BK372.out 0).trans rfl,(blk_cell BK372.out 1).trans rfl,((HB.out.cell (World.block_lt_of_cell? w _ hw409_0)).trans hw409_0),((HB.out.cell (World.block_lt_of_cell? w _ hw409_1)).trans hw409_1),((HB.out.cell (World.block_lt_of_cell? w _ hw410_0)).trans hw410_0),((HB.out.cell (World.block_lt_of_cell? w _ hw410_1)).trans hw410_1),((HB.out.cell (World.block_lt_of_cell? w _ hw410_2)).trans hw410_2),((HB.out.cell (World.block_lt_of_cell? w _ hw410_3)).trans hw410_3),((HB.out.cell (World.block_lt_of_cell? w _ hw410_4)).trans hw410_4),((HB.out.cell (World.block_lt_of_cell? w _ hw410_5)).trans hw410_5),((HB.out.cell (World.block_lt_of_cell? w _ hw410_6)).trans hw410_6)⟩ (fun hHeld=>?_)
           clear hK K
           refine norm_ (a':=?_) ?_ ?_;rotate_left;show Act.put _ (some 134) _=_;simp only [Act.put,Y14,Y15,Y16];rfl
           refine pure_ (i:=13) (N:=some 121) (v:=?_) (a':=?_) (sqB 19 16383) rfl rfl (any_of HT_.out (by kernel_rfl)) (fun _ _ _ h=>h) (Or.inl ⟨by rfl,?_⟩) ?_ ?_;rotate_left;intro w';go_simp;with_reducible rfl;rotate_left;simp only [Act.put,Y14,Y15,Y16];rfl
           refine pure_ (i:=14) (N:=some 135) (v:=?_) (a':=?_) (sqB 19 32767) rfl rfl (any_of HT_.out (by kernel_rfl)) (fun _ _ _ h=>h) (Or.inl ⟨by rfl,?_⟩) ?_ ?_;rotate_left;intro w';go_simp;with_reducible rfl;rotate_left;simp only [Act.put,Y14,Y15,Y16];rfl
           refine pure_ (i:=15) (N:=some 136) (v:=?_) (a':=?_) (sqB 19 65535) rfl rfl (any_of HT_.out (by kernel_rfl)) (fun _ _ _ h=>h) (Or.inl ⟨by rfl,?_⟩) ?_ ?_;rotate_left;intro w';go_simp;with_reducible rfl;rotate_left;simp only [Act.put,Y14,Y15,Y16];rfl
           refine one_ (i:=16) (N:=some 18) (sqB 19 131071) rfl rfl (one_of HT_.out (by kernel_rfl)) (by decide) (fun K hK=>?_)
           refine box_step ?hg (N:=18) ?hd (cs:=#[.int .i64 0,.string (⟨#[]⟩:ByteArray),.int .i64 0,.int .i64 0,.bool false,.int .i64 0,.int .i64 0]) (t:=51) ?hr ?_;(case hd=>rfl);(case hg=>rfl);(case hr=>first|(go_simp;done)|(go_simp;rfl))
           intro gb419 hg w121 hbox hb
           have n0_:=Y0 (blk_below (g:=gb372) (o:=.cells #[.slice (some ad394) l0_0.length c0_0,.slice A0_1 l0_1.length c0_1] 46 (0,0)) (by (with_reducible repeat first|apply Y11|apply Y13|apply Y12);exact BK372.out) hb)
           have n1_:=Y0 (blk_below (g:=gb383) (o:=.cells #[.int .i64 t375,.string t376,.int .i64 t377,.int .i64 t378,.bool t379,.int .i64 t380,.int .i64 t381] 51 (0,0)) (by (with_reducible repeat first|apply Y11|apply Y13|apply Y12);exact BK383.out) hb)
           have n2_:=Y0 (blk_below (g:=gb392) (o:=.cells #[.int .i64 t384,.string t385,.int .i64 t386,.int .i64 t387,.bool t388,.int .i64 t389,.int .i64 t390] 51 (0,0)) (by (with_reducible repeat first|apply Y11|apply Y13|apply Y12);exact BK392.out) hb)
           have n3_:=Y0 (blk_below (g:=gb408) (o:=.cells #[.int .i64 t400,.string t401,.int .i64 t402,.int .i64 t403,.bool t404,.int .i64 t405,.int .i64 t406] 51 (0,0)) (by (with_reducible repeat first|apply Y11|apply Y13|apply Y12);exact BK408.out) hb)
           have n4_:=Y0 (below_step (by repeat (with_reducible first|exact HB.out|apply Y3|apply Y1|apply Y2|refine Y4 ?_ GE372.out|refine Y4 ?_ GE383.out|refine Y4 ?_ GE392.out|refine Y4 ?_ GE408.out)) hb)
           have n5_:=Y0 (hbox)
           have n6_:=Y0 ((by rw [hg];exact (below_size (by repeat (with_reducible first|exact HB.out|apply Y3|apply Y1|apply Y2|refine Y4 ?_ GE372.out|refine Y4 ?_ GE383.out|refine Y4 ?_ GE392.out|refine Y4 ?_ GE408.out))):w.heap.size≤gb419))
           have n7_:=Y0 ((by rw [hg];exact (below_size (by repeat (with_reducible first|exact HB.out|apply Y3|apply Y1|apply Y2|refine Y4 ?_ GE372.out|refine Y4 ?_ GE383.out|refine Y4 ?_ GE392.out|refine Y4 ?_ GE408.out))):w.heap.size≤gb419))
           have n8_:=Y0 ((by rw [hg];exact Nat.ne_of_lt (blk_lt (g:=gb372) (o:=.cells #[.slice (some ad394) l0_0.length c0_0,.slice A0_1 l0_1.length c0_1] 46 (0,0)) (by (with_reducible repeat first|apply Y11|apply Y13|apply Y12);exact BK372.out)):gb372≠gb419))
           have n9_:=Y0 ((by rw [hg];exact Nat.ne_of_gt (blk_lt (g:=gb372) (o:=.cells #[.slice (some ad394) l0_0.length c0_0,.slice A0_1 l0_1.length c0_1] 46 (0,0)) (by (with_reducible repeat first|apply Y11|apply Y13|apply Y12);exact BK372.out)):gb419≠gb372))
           have n10_:=Y0 ((by rw [hg];exact Nat.ne_of_lt (blk_lt (g:=gb383) (o:=.cells #[.int .i64 t375,.string t376,.int .i64 t377,.int .i64 t378,.bool t379,.int .i64 t380,.int .i64 t381] 51 (0,0)) (by (with_reducible repeat first|apply Y11|apply Y13|apply Y12);exact BK383.out)):gb383≠gb419))
           have n11_:=Y0 ((by rw [hg];exact Nat.ne_of_gt (blk_lt (g:=gb383) (o:=.cells #[.int .i64 t375,.string t376,.int .i64 t377,.int .i64 t378,.bool t379,.int .i64 t380,.int .i64 t381] 51 (0,0)) (by (with_reducible repeat first|apply Y11|apply Y13|apply Y12);exact BK383.out)):gb419≠gb383))
           have n12_:=Y0 ((by rw [hg];exact Nat.ne_of_lt (blk_lt (g:=gb392) (o:=.cells #[.int .i64 t384,.string t385,.int .i64 t386,.int .i64 t387,.bool t388,.int .i64 t389,.int .i64 t390] 51 (0,0)) (by (with_reducible repeat first|apply Y11|apply Y13|apply Y12);exact BK392.out)):gb392≠gb419))
           have n13_:=Y0 ((by rw [hg];exact Nat.ne_of_gt (blk_lt (g:=gb392) (o:=.cells #[.int .i64 t384,.string t385,.int .i64 t386,.int .i64 t387,.bool t388,.int .i64 t389,.int .i64 t390] 51 (0,0)) (by (with_reducible repeat first|apply Y11|apply Y13|apply Y12);exact BK392.out)):gb419≠gb392))
           have n14_:=Y0 ((by rw [hg];exact Nat.ne_of_lt (blk_lt (g:=gb408) (o:=.cells #[.int .i64 t400,.string t401,.int .i64 t402,.int .i64 t403,.bool t404,.int .i64 t405,.int .i64 t406] 51 (0,0)) (by (with_reducible repeat first|apply Y11|apply Y13|apply Y12);exact BK408.out)):gb408≠gb419))
           have n15_:=Y0 ((by rw [hg];exact Nat.ne_of_gt (blk_lt (g:=gb408) (o:=.cells #[.int .i64 t400,.string t401,.int .i64 t402,.int .i64 t403,.bool t404,.int .i64 t405,.int .i64 t406] 51 (0,0)) (by (with_reducible repeat first|apply Y11|apply Y13|apply Y12);exact BK408.out)):gb419≠gb408))
           clear BK372
           clear BK383
           clear BK392
           clear BK408
           clear HB
           have BK372:=n0_
           have BK383:=n1_
           have BK392:=n2_
           have BK408:=n3_
           have HB:=n4_
           have BK419:=n5_
           have GW419:=n6_
           have GE419:=n7_
           have NB372_419:=n8_
           have NB419_372:=n9_
           have NB383_419:=n10_
           have NB419_383:=n11_
           have NB392_419:=n12_
           have NB419_392:=n13_
           have NB408_419:=n14_
           have NB419_408:=n15_
           clear n0_ n1_ n2_ n3_ n4_ n5_ n6_ n7_ n8_ n9_ n10_ n11_ n12_ n13_ n14_ n15_
           clear hb hbox hg
           refine hK.out _ _ ⟨(blk_cell BK372.out 0).trans rfl,(blk_cell BK372.out 1).trans rfl,((HB.out.cell (World.block_lt_of_cell? w _ hw409_0)).trans hw409_0),((HB.out.cell (World.block_lt_of_cell? w _ hw409_1)).trans hw409_1),((HB.out.cell (World.block_lt_of_cell? w _ hw410_0)).trans hw410_0),((HB.out.cell (World.block_lt_of_cell? w _ hw410_1)).trans hw410_1),((HB.out.cell (World.block_lt_of_cell? w _ hw410_2)).trans hw410_2),((HB.out.cell (World.block_lt_of_cell? w _ hw410_3)).trans hw410_3),((HB.out.cell (World.block_lt_of_cell? w _ hw410_4)).trans hw410_4),((HB.out.cell (World.block_lt_of_cell? w _ hw410_5)).trans hw410_5),((HB.out.cell (World.block_lt_of_cell? w _ hw410_6)).trans hw410_6)⟩ (fun hHeld=>?_)
           clear hK K
           refine norm_ (a':=?_) ?_ ?_;rotate_left;show Act.put _ (some 18) _=_;simp only [Act.put,Y14,Y15,Y16];rfl
           exact norm_ (by simp only [putAll,Act.put,List.setIfInBounds_toArray,List.set_cons_zero,List.set_cons_succ]) (hCont (gb419) _ ⟨hHeld,(by (with_reducible repeat first|apply Y11|apply Y13|apply Y12);exact BK372.out),(by (with_reducible repeat first|apply Y11|apply Y13|apply Y12);exact BK383.out),(by (with_reducible repeat first|apply Y11|apply Y13|apply Y12);exact BK392.out),(by (with_reducible repeat first|apply Y11|apply Y13|apply Y12);exact BK408.out),(by (with_reducible repeat first|apply Y11|apply Y13|apply Y12);exact BK419.out),GW419.out,GE419.out,NB372_419.out,NB419_372.out,NB383_419.out,NB419_383.out,NB392_419.out,NB419_392.out,NB408_419.out,NB419_408.out,(by repeat (with_reducible first|exact HB.out|apply Y3|apply Y1|apply Y2|refine Y4 ?_ GE372.out|refine Y4 ?_ GE383.out|refine Y4 ?_ GE392.out|refine Y4 ?_ GE408.out|refine Y4 ?_ GE419.out))⟩)
          ·skip
           refine box_step ?hg (N:=18) ?hd (cs:=#[.int .i64 0,.string (⟨#[]⟩:ByteArray),.int .i64 0,.int .i64 0,.bool false,.int .i64 0,.int .i64 0]) (t:=51) ?hr ?_;(case hd=>rfl);(case hg=>rfl);(case hr=>first|(go_simp;done)|(go_simp;rfl))
           intro gb419 hg w120 hbox hb
           have n0_:=Y0 (blk_below (g:=gb372) (o:=.cells #[.slice (some ad394) l0_0.length c0_0,.slice A0_1 l0_1.length c0_1] 46 (0,0)) (by (with_reducible repeat first|apply Y11|apply Y13|apply Y12);exact BK372.out) hb)
           have n1_:=Y0 (blk_below (g:=gb383) (o:=.cells #[.int .i64 t375,.string t376,.int .i64 t377,.int .i64 t378,.bool t379,.int .i64 t380,.int .i64 t381] 51 (0,0)) (by (with_reducible repeat first|apply Y11|apply Y13|apply Y12);exact BK383.out) hb)
           have n2_:=Y0 (blk_below (g:=gb392) (o:=.cells #[.int .i64 t384,.string t385,.int .i64 t386,.int .i64 t387,.bool t388,.int .i64 t389,.int .i64 t390] 51 (0,0)) (by (with_reducible repeat first|apply Y11|apply Y13|apply Y12);exact BK392.out) hb)
           have n3_:=Y0 (blk_below (g:=gb408) (o:=.cells #[.int .i64 t400,.string t401,.int .i64 t402,.int .i64 t403,.bool t404,.int .i64 t405,.int .i64 t406] 51 (0,0)) (by (with_reducible repeat first|apply Y11|apply Y13|apply Y12);exact BK408.out) hb)
           have n4_:=Y0 (below_step (by repeat (with_reducible first|exact HB.out|apply Y3|apply Y1|apply Y2|refine Y4 ?_ GE372.out|refine Y4 ?_ GE383.out|refine Y4 ?_ GE392.out|refine Y4 ?_ GE408.out)) hb)
           have n5_:=Y0 (hbox)
           have n6_:=Y0 ((by rw [hg];exact (below_size (by repeat (with_reducible first|exact HB.out|apply Y3|apply Y1|apply Y2|refine Y4 ?_ GE372.out|refine Y4 ?_ GE383.out|refine Y4 ?_ GE392.out|refine Y4 ?_ GE408.out))):w.heap.size≤gb419))
           have n7_:=Y0 ((by rw [hg];exact (below_size (by repeat (with_reducible first|exact HB.out|apply Y3|apply Y1|apply Y2|refine Y4 ?_ GE372.out|refine Y4 ?_ GE383.out|refine Y4 ?_ GE392.out|refine Y4 ?_ GE408.out))):w.heap.size≤gb419))
           have n8_:=Y0 ((by rw [hg];exact Nat.ne_of_lt (blk_lt (g:=gb372) (o:=.cells #[.slice (some ad394) l0_0.length c0_0,.slice A0_1 l0_1.length c0_1] 46 (0,0)) (by (with_reducible repeat first|apply Y11|apply Y13|apply Y12);exact BK372.out)):gb372≠gb419))
           have n9_:=Y0 ((by rw [hg];exact Nat.ne_of_gt (blk_lt (g:=gb372) (o:=.cells #[.slice (some ad394) l0_0.length c0_0,.slice A0_1 l0_1.length c0_1] 46 (0,0)) (by (with_reducible repeat first|apply Y11|apply Y13|apply Y12);exact BK372.out)):gb419≠gb372))
           have n10_:=Y0 ((by rw [hg];exact Nat.ne_of_lt (blk_lt (g:=gb383) (o:=.cells #[.int .i64 t375,.string t376,.int .i64 t377,.int .i64 t378,.bool t379,.int .i64 t380,.int .i64 t381] 51 (0,0)) (by (with_reducible repeat first|apply Y11|apply Y13|apply Y12);exact BK383.out)):gb383≠gb419))
           have n11_:=Y0 ((by rw [hg];exact Nat.ne_of_gt (blk_lt (g:=gb383) (o:=.cells #[.int .i64 t375,.string t376,.int .i64 t377,.int .i64 t378,.bool t379,.int .i64 t380,.int .i64 t381] 51 (0,0)) (by (with_reducible repeat first|apply Y11|apply Y13|apply Y12);exact BK383.out)):gb419≠gb383))
           have n12_:=Y0 ((by rw [hg];exact Nat.ne_of_lt (blk_lt (g:=gb392) (o:=.cells #[.int .i64 t384,.string t385,.int .i64 t386,.int .i64 t387,.bool t388,.int .i64 t389,.int .i64 t390] 51 (0,0)) (by (with_reducible repeat first|apply Y11|apply Y13|apply Y12);exact BK392.out)):gb392≠gb419))
           have n13_:=Y0 ((by rw [hg];exact Nat.ne_of_gt (blk_lt (g:=gb392) (o:=.cells #[.int .i64 t384,.string t385,.int .i64 t386,.int .i64 t387,.bool t388,.int .i64 t389,.int .i64 t390] 51 (0,0)) (by (with_reducible repeat first|apply Y11|apply Y13|apply Y12);exact BK392.out)):gb419≠gb392))
           have n14_:=Y0 ((by rw [hg];exact Nat.ne_of_lt (blk_lt (g:=gb408) (o:=.cells #[.int .i64 t400,.string t401,.int .i64 t402,.int .i64 t403,.bool t404,.int .i64 t405,.int .i64 t406] 51 (0,0)) (by (with_reducible repeat first|apply Y11|apply Y13|apply Y12);exact BK408.out)):gb408≠gb419))
           have n15_:=Y0 ((by rw [hg];exact Nat.ne_of_gt (blk_lt (g:=gb408) (o:=.cells #[.int .i64 t400,.string t401,.int .i64 t402,.int .i64 t403,.bool t404,.int .i64 t405,.int .i64 t406] 51 (0,0)) (by (with_reducible repeat first|apply Y11|apply Y13|apply Y12);exact BK408.out)):gb419≠gb408))
           clear BK372
           clear BK383
           clear BK392
           clear BK408
           clear HB
           have BK372:=n0_
           have BK383:=n1_
           have BK392:=n2_
           have BK408:=n3_
           have HB:=n4_
           have BK419:=n5_
           have GW419:=n6_
           have GE419:=n7_
           have NB372_419:=n8_
           have NB419_372:=n9_
           have NB383_419:=n10_
           have NB419_383:=n11_
           have NB392_419:=n12_
           have NB419_392:=n13_
           have NB408_419:=n14_
           have NB419_408:=n15_
           clear n0_ n1_ n2_ n3_ n4_ n5_ n6_ n7_ n8_ n9_ n10_ n11_ n12_ n13_ n14_ n15_
           clear hb hbox hg
           refine hK.out _ _ ⟨(blk_cell BK372.out 0).trans rfl,(blk_cell BK372.out 1).trans rfl,((HB.out.cell (World.block_lt_of_cell? w _ hw409_0)).trans hw409_0),((HB.out.cell (World.block_lt_of_cell? w _ hw409_1)).trans hw409_1),((HB.out.cell (World.block_lt_of_cell? w _ hw410_0)).trans hw410_0),((HB.out.cell (World.block_lt_of_cell? w _ hw410_1)).trans hw410_1),((HB.out.cell (World.block_lt_of_cell? w _ hw410_2)).trans hw410_2),((HB.out.cell (World.block_lt_of_cell? w _ hw410_3)).trans hw410_3),((HB.out.cell (World.block_lt_of_cell? w _ hw410_4)).trans hw410_4),((HB.out.cell (World.block_lt_of_cell? w _ hw410_5)).trans hw410_5),((HB.out.cell (World.block_lt_of_cell? w _ hw410_6)).trans hw410_6)⟩ (fun hHeld=>?_)
           clear hK K
           refine norm_ (a':=?_) ?_ ?_;rotate_left;show Act.put _ (some 18) _=_;simp only [Act.put,Y14,Y15,Y16];rfl
           refine one_ (i:=12) (N:=some 134) (sqB 19 73727) rfl rfl (one_of HT_.out (by kernel_rfl)) (by decide) (fun K hK=>?_)
           refine goes_ Tryz.func21 (by kernel_rfl) rfl #[.agg #[.slice (some ad394) l0_0.length c0_0,.slice A0_1 l0_1.length c0_1],.int .i64 a1,.int .i64 ((rd_T51 ((rd_T57 l0_0 a1).f1) x15_4).f0)] (by rfl) rfl rfl (by (try simp only [List.map_toArray,List.map_cons,List.map_nil]);first|done|rfl|(simp only [List.length_drop,List.length_take];rfl)) ?_
           with_reducible refine (table_By.calls _ _ l0_0 _ _ l0_1 a1 ((rd_T51 ((rd_T57 l0_0 a1).f1) x15_4).f0) t411 t412 t413 t414 t415 t416 t417 true _ ?side1 ?side2 ?side3 ?side4 A99.out).mono ?_
           (case side1=>repeat (first|exact (Kd.C_below HR0_0.out HB.out)|(with_reducible refine Y8 ?_ _)|(with_reducible refine Kd.C_drewN ?_ _)|(with_reducible refine Kd.C_drew ?_)))
           (case side2=>exact HC0_0.out)
           (case side3=>repeat (first|exact (Kd.C_below HR0_1.out HB.out)|(with_reducible refine Y8 ?_ _)|(with_reducible refine Kd.C_drewN ?_ _)|(with_reducible refine Kd.C_drew ?_)))
           (case side4=>exact HC0_1.out)
           rintro e w121 ⟨rfl,hb⟩
           refine ⟨_,rfl,?_⟩
           have n0_:=Y0 (blk_below (g:=gb372) (o:=.cells #[.slice (some ad394) l0_0.length c0_0,.slice A0_1 l0_1.length c0_1] 46 (0,0)) (by (with_reducible repeat first|apply Y11|apply Y13|apply Y12);exact BK372.out) hb)
           have n1_:=Y0 (blk_below (g:=gb383) (o:=.cells #[.int .i64 t375,.string t376,.int .i64 t377,.int .i64 t378,.bool t379,.int .i64 t380,.int .i64 t381] 51 (0,0)) (by (with_reducible repeat first|apply Y11|apply Y13|apply Y12);exact BK383.out) hb)
           have n2_:=Y0 (blk_below (g:=gb392) (o:=.cells #[.int .i64 t384,.string t385,.int .i64 t386,.int .i64 t387,.bool t388,.int .i64 t389,.int .i64 t390] 51 (0,0)) (by (with_reducible repeat first|apply Y11|apply Y13|apply Y12);exact BK392.out) hb)
           have n3_:=Y0 (blk_below (g:=gb408) (o:=.cells #[.int .i64 t400,.string t401,.int .i64 t402,.int .i64 t403,.bool t404,.int .i64 t405,.int .i64 t406] 51 (0,0)) (by (with_reducible repeat first|apply Y11|apply Y13|apply Y12);exact BK408.out) hb)
           have n4_:=Y0 (blk_below (g:=gb419) (o:=.cells #[.int .i64 0,.string (⟨#[]⟩:ByteArray),.int .i64 0,.int .i64 0,.bool false,.int .i64 0,.int .i64 0] 51 (0,0)) (by (with_reducible repeat first|apply Y11|apply Y13|apply Y12);exact BK419.out) hb)
           have n5_:=Y0 (below_step (by repeat (with_reducible first|exact HB.out|apply Y3|apply Y1|apply Y2|refine Y4 ?_ GE372.out|refine Y4 ?_ GE383.out|refine Y4 ?_ GE392.out|refine Y4 ?_ GE408.out|refine Y4 ?_ GE419.out)) hb)
           clear BK372
           clear BK383
           clear BK392
           clear BK408
           clear BK419
           clear HB
           have BK372:=n0_
           have BK383:=n1_
           have BK392:=n2_
           have BK408:=n3_
           have BK419:=n4_
           have HB:=n5_
           clear n0_ n1_ n2_ n3_ n4_ n5_
           (try clear hb)
           (try clear hb2)
           (try clear hk)
           (try clear hi)
           refine hK.out _ _ ⟨(blk_cell BK372.out 0).trans rfl,(blk_cell BK372.out 1).trans rfl,((HB.out.cell (World.block_lt_of_cell? w _ hw409_0)).trans hw409_0),((HB.out.cell (World.block_lt_of_cell? w _ hw409_1)).trans hw409_1),((HB.out.cell (World.block_lt_of_cell? w _ hw410_0)).trans hw410_0),((HB.out.cell (World.block_lt_of_cell? w _ hw410_1)).trans hw410_1),((HB.out.cell (World.block_lt_of_cell? w _ hw410_2)).trans hw410_2),((HB.out.cell (World.block_lt_of_cell? w _ hw410_3)).trans hw410_3),((HB.out.cell (World.block_lt_of_cell? w _ hw410_4)).trans hw410_4),((HB.out.cell (World.block_lt_of_cell? w _ hw410_5)).trans hw410_5),((HB.out.cell (World.block_lt_of_cell? w _ hw410_6)).trans hw410_6)⟩ (fun hHeld=>?_)
           clear hK K
           refine norm_ (a':=?_) ?_ ?_;rotate_left;show Act.put _ (some 134) _=_;simp only [Act.put,Y14,Y15,Y16];rfl
           refine pure_ (i:=13) (N:=some 121) (v:=?_) (a':=?_) (sqB 19 81919) rfl rfl (any_of HT_.out (by kernel_rfl)) (fun _ _ _ h=>h) (Or.inl ⟨by rfl,?_⟩) ?_ ?_;rotate_left;intro w';go_simp;with_reducible rfl;rotate_left;simp only [Act.put,Y14,Y15,Y16];rfl
           refine pure_ (i:=14) (N:=some 135) (v:=?_) (a':=?_) (sqB 19 98303) rfl rfl (any_of HT_.out (by kernel_rfl)) (fun _ _ _ h=>h) (Or.inl ⟨by rfl,?_⟩) ?_ ?_;rotate_left;intro w';go_simp;with_reducible rfl;rotate_left;simp only [Act.put,Y14,Y15,Y16];rfl
           refine pure_ (i:=15) (N:=some 136) (v:=?_) (a':=?_) (sqB 19 131071) rfl rfl (any_of HT_.out (by kernel_rfl)) (fun _ _ _ h=>h) (Or.inl ⟨by rfl,?_⟩) ?_ ?_;rotate_left;intro w';go_simp;with_reducible rfl;rotate_left;simp only [Act.put,Y14,Y15,Y16];rfl
           exact norm_ (by simp only [putAll,Act.put,List.setIfInBounds_toArray,List.set_cons_zero,List.set_cons_succ]) (hCont (gb419) _ ⟨hHeld,(by (with_reducible repeat first|apply Y11|apply Y13|apply Y12);exact BK372.out),(by (with_reducible repeat first|apply Y11|apply Y13|apply Y12);exact BK383.out),(by (with_reducible repeat first|apply Y11|apply Y13|apply Y12);exact BK392.out),(by (with_reducible repeat first|apply Y11|apply Y13|apply Y12);exact BK408.out),(by (with_reducible repeat first|apply Y11|apply Y13|apply Y12);exact BK419.out),GW419.out,GE419.out,NB372_419.out,NB419_372.out,NB383_419.out,NB419_383.out,NB392_419.out,NB419_392.out,NB408_419.out,NB419_408.out,(by repeat (with_reducible first|exact HB.out|apply Y3|apply Y1|apply Y2|refine Y4 ?_ GE372.out|refine Y4 ?_ GE383.out|refine Y4 ?_ GE392.out|refine Y4 ?_ GE408.out|refine Y4 ?_ GE419.out))⟩)
         rintro gb419 w122 ⟨hS_,h0_,h1_,h2_,h3_,h4_,h5_,h6_,h7_,h8_,h9_,h10_,h11_,h12_,h13_,h14_,h15_⟩
         have n0_:Aside0 (w122.heap[gb372]?=some (.cells #[.slice (some ad394) l0_0.length c0_0,.slice A0_1 l0_1.length c0_1] 46 (0,0))):=⟨h0_⟩
         have n1_:Aside0 (w122.heap[gb383]?=some (.cells #[.int .i64 t375,.string t376,.int .i64 t377,.int .i64 t378,.bool t379,.int .i64 t380,.int .i64 t381] 51 (0,0))):=⟨h1_⟩
         have n2_:Aside0 (w122.heap[gb392]?=some (.cells #[.int .i64 t384,.string t385,.int .i64 t386,.int .i64 t387,.bool t388,.int .i64 t389,.int .i64 t390] 51 (0,0))):=⟨h2_⟩
         have n3_:Aside0 (w122.heap[gb408]?=some (.cells #[.int .i64 t400,.string t401,.int .i64 t402,.int .i64 t403,.bool t404,.int .i64 t405,.int .i64 t406] 51 (0,0))):=⟨h3_⟩
         have n4_:Aside0 (w122.heap[gb419]?=some (.cells #[.int .i64 0,.string (⟨#[]⟩:ByteArray),.int .i64 0,.int .i64 0,.bool false,.int .i64 0,.int .i64 0] 51 (0,0))):=⟨h4_⟩
         have n5_:Aside0 (w.heap.size≤gb419):=⟨h5_⟩
         have n6_:Aside0 (w.heap.size≤gb419):=⟨h6_⟩
         have n7_:Aside0 (gb372≠gb419):=⟨h7_⟩
         have n8_:Aside0 (gb419≠gb372):=⟨h8_⟩
         have n9_:Aside0 (gb383≠gb419):=⟨h9_⟩
         have n10_:Aside0 (gb419≠gb383):=⟨h10_⟩
         have n11_:Aside0 (gb392≠gb419):=⟨h11_⟩
         have n12_:Aside0 (gb419≠gb392):=⟨h12_⟩
         have n13_:Aside0 (gb408≠gb419):=⟨h13_⟩
         have n14_:Aside0 (gb419≠gb408):=⟨h14_⟩
         have n15_:Aside0 (Below w.heap.size w w122):=⟨h15_⟩
         clear BK372
         clear BK383
         clear BK392
         clear BK408
         clear HB
         clear h0_ h1_ h2_ h3_ h4_ h5_ h6_ h7_ h8_ h9_ h10_ h11_ h12_ h13_ h14_ h15_
         have BK372:=n0_
         have BK383:=n1_
         have BK392:=n2_
         have BK408:=n3_
         have BK419:=n4_
         have GW419:=n5_
         have GE419:=n6_
         have NB372_419:=n7_
         have NB419_372:=n8_
         have NB383_419:=n9_
         have NB419_383:=n10_
         have NB392_419:=n11_
         have NB419_392:=n12_
         have NB408_419:=n13_
         have NB419_408:=n14_
         have HB:=n15_
         clear n0_ n1_ n2_ n3_ n4_ n5_ n6_ n7_ n8_ n9_ n10_ n11_ n12_ n13_ n14_ n15_
         have hHeld:w122.cell? ⟨gb372,0,none⟩=some (.slice (some ad394) l0_0.length c0_0)∧w122.cell? ⟨gb372,1,none⟩=some (.slice A0_1 l0_1.length c0_1)∧w122.cell? (ad394.add ((a1).toNat * 2))=some (.string ((rd_T57 l0_0 a1).f0))∧w122.cell? ⟨(ad394.add ((a1).toNat * 2)).block,(ad394.add ((a1).toNat * 2)).off + 1,none⟩=some (.slice (some ad410) ((rd_T57 l0_0 a1).f1).length c409_1)∧w122.cell? (ad410.add ((x15_4).toNat * 7))=some (.int .i64 ((rd_T51 ((rd_T57 l0_0 a1).f1) x15_4).f0))∧w122.cell? ⟨(ad410.add ((x15_4).toNat * 7)).block,(ad410.add ((x15_4).toNat * 7)).off + 1,none⟩=some (.string ((rd_T51 ((rd_T57 l0_0 a1).f1) x15_4).f1))∧w122.cell? ⟨(ad410.add ((x15_4).toNat * 7)).block,(ad410.add ((x15_4).toNat * 7)).off + 2,none⟩=some (.int .i64 ((rd_T51 ((rd_T57 l0_0 a1).f1) x15_4).f2))∧w122.cell? ⟨(ad410.add ((x15_4).toNat * 7)).block,(ad410.add ((x15_4).toNat * 7)).off + 3,none⟩=some (.int .i64 ((rd_T51 ((rd_T57 l0_0 a1).f1) x15_4).f3))∧w122.cell? ⟨(ad410.add ((x15_4).toNat * 7)).block,(ad410.add ((x15_4).toNat * 7)).off + 4,none⟩=some (.bool ((rd_T51 ((rd_T57 l0_0 a1).f1) x15_4).f4))∧w122.cell? ⟨(ad410.add ((x15_4).toNat * 7)).block,(ad410.add ((x15_4).toNat * 7)).off + 5,none⟩=some (.int .i64 ((rd_T51 ((rd_T57 l0_0 a1).f1) x15_4).f5))∧w122.cell? ⟨(ad410.add ((x15_4).toNat * 7)).block,(ad410.add ((x15_4).toNat * 7)).off + 6,none⟩=some (.int .i64 ((rd_T51 ((rd_T57 l0_0 a1).f1) x15_4).f6)):=hS_
         refine norm_ (a':=?_) ?_ ?_
         rotate_left
         ·simp only [putAll,Act.put,List.setIfInBounds_toArray,List.set_cons_zero,List.set_cons_succ]
          rfl
         refine one_ (i:=17) (N:=none) (sqB 19 262143) rfl rfl (one_of HT_.out (by kernel_rfl)) (by decide) (fun K hK=>?_)
         have hs123:w122.cell? ⟨gb419,0,none⟩=some (.int .i64 0):=(blk_cell BK419.out 0).trans rfl
         have hfs123:=blk_frozen BK419.out 0
         have hns123_0:=NB372_419.out
         have hns123_1:=NB383_419.out
         have hns123_2:=NB392_419.out
         have hns123_3:=NB408_419.out
         have hms123_0:=NB419_372.out
         have hms123_1:=NB419_383.out
         have hms123_2:=NB419_392.out
         have hms123_3:=NB419_408.out
         have hs124:w122.cell? ⟨gb419,1,none⟩=some (.string (⟨#[]⟩:ByteArray)):=(blk_cell BK419.out 1).trans rfl
         have hfs124:=blk_frozen BK419.out 1
         have hns124_0:=NB372_419.out
         have hns124_1:=NB383_419.out
         have hns124_2:=NB392_419.out
         have hns124_3:=NB408_419.out
         have hms124_0:=NB419_372.out
         have hms124_1:=NB419_383.out
         have hms124_2:=NB419_392.out
         have hms124_3:=NB419_408.out
         have hs125:w122.cell? ⟨gb419,2,none⟩=some (.int .i64 0):=(blk_cell BK419.out 2).trans rfl
         have hfs125:=blk_frozen BK419.out 2
         have hns125_0:=NB372_419.out
         have hns125_1:=NB383_419.out
         have hns125_2:=NB392_419.out
         have hns125_3:=NB408_419.out
         have hms125_0:=NB419_372.out
         have hms125_1:=NB419_383.out
         have hms125_2:=NB419_392.out
         have hms125_3:=NB419_408.out
         have hs126:w122.cell? ⟨gb419,3,none⟩=some (.int .i64 0):=(blk_cell BK419.out 3).trans rfl
         have hfs126:=blk_frozen BK419.out 3
         have hns126_0:=NB372_419.out
         have hns126_1:=NB383_419.out
         have hns126_2:=NB392_419.out
         have hns126_3:=NB408_419.out
         have hms126_0:=NB419_372.out
         have hms126_1:=NB419_383.out
         have hms126_2:=NB419_392.out
         have hms126_3:=NB419_408.out
         have hs127:w122.cell? ⟨gb419,4,none⟩=some (.bool false):=(blk_cell BK419.out 4).trans rfl
         have hfs127:=blk_frozen BK419.out 4
         have hns127_0:=NB372_419.out
         have hns127_1:=NB383_419.out
         have hns127_2:=NB392_419.out
         have hns127_3:=NB408_419.out
         have hms127_0:=NB419_372.out
         have hms127_1:=NB419_383.out
         have hms127_2:=NB419_392.out
         have hms127_3:=NB419_408.out
         have hs128:w122.cell? ⟨gb419,5,none⟩=some (.int .i64 0):=(blk_cell BK419.out 5).trans rfl
         have hfs128:=blk_frozen BK419.out 5
         have hns128_0:=NB372_419.out
         have hns128_1:=NB383_419.out
         have hns128_2:=NB392_419.out
         have hns128_3:=NB408_419.out
         have hms128_0:=NB419_372.out
         have hms128_1:=NB419_383.out
         have hms128_2:=NB419_392.out
         have hms128_3:=NB419_408.out
         have hs129:w122.cell? ⟨gb419,6,none⟩=some (.int .i64 0):=(blk_cell BK419.out 6).trans rfl
         have hfs129:=blk_frozen BK419.out 6
         have hns129_0:=NB372_419.out
         have hns129_1:=NB383_419.out
         have hns129_2:=NB392_419.out
         have hns129_3:=NB408_419.out
         have hms129_0:=NB419_372.out
         have hms129_1:=NB419_383.out
         have hms129_2:=NB419_392.out
         have hms129_3:=NB419_408.out
         refine skip_ (w1:=?_) (by rfl) rfl ?_ ?_
         rotate_left
         ·go_simp
          rfl
         refine hK.out _ _ ⟨(far_7 NB372_419.out (hHeld.1)),(far_7 NB372_419.out (hHeld.2.1)),(far_7 (by first|exact Nat.ne_of_lt (Nat.lt_of_lt_of_le (by have:=World.block_lt_of_cell? _ _ hw409_0;first|rwa [add_block] at this|exact this) GW419.out)|(rw [add_block];exact Nat.ne_of_lt (Nat.lt_of_lt_of_le (by have:=World.block_lt_of_cell? _ _ hw409_0;first|rwa [add_block] at this|exact this) GW419.out))|(show (Addr.add _ _).block≠_;rw [add_block];exact Nat.ne_of_lt (Nat.lt_of_lt_of_le (by have:=World.block_lt_of_cell? _ _ hw409_0;first|rwa [add_block] at this|exact this) GW419.out))|(dsimp only;exact Nat.ne_of_lt (Nat.lt_of_lt_of_le (by have:=World.block_lt_of_cell? _ _ hw409_0;first|rwa [add_block] at this|exact this) GW419.out))) (hHeld.2.2.1)),(far_7 (by first|exact Nat.ne_of_lt (Nat.lt_of_lt_of_le (by have:=World.block_lt_of_cell? _ _ hw409_1;first|rwa [add_block] at this|exact this) GW419.out)|(rw [add_block];exact Nat.ne_of_lt (Nat.lt_of_lt_of_le (by have:=World.block_lt_of_cell? _ _ hw409_1;first|rwa [add_block] at this|exact this) GW419.out))|(show (Addr.add _ _).block≠_;rw [add_block];exact Nat.ne_of_lt (Nat.lt_of_lt_of_le (by have:=World.block_lt_of_cell? _ _ hw409_1;first|rwa [add_block] at this|exact this) GW419.out))|(dsimp only;exact Nat.ne_of_lt (Nat.lt_of_lt_of_le (by have:=World.block_lt_of_cell? _ _ hw409_1;first|rwa [add_block] at this|exact this) GW419.out))) (hHeld.2.2.2.1)),(far_7 (by first|exact Nat.ne_of_lt (Nat.lt_of_lt_of_le (by have:=World.block_lt_of_cell? _ _ hw410_0;first|rwa [add_block] at this|exact this) GW419.out)|(rw [add_block];exact Nat.ne_of_lt (Nat.lt_of_lt_of_le (by have:=World.block_lt_of_cell? _ _ hw410_0;first|rwa [add_block] at this|exact this) GW419.out))|(show (Addr.add _ _).block≠_;rw [add_block];exact Nat.ne_of_lt (Nat.lt_of_lt_of_le (by have:=World.block_lt_of_cell? _ _ hw410_0;first|rwa [add_block] at this|exact this) GW419.out))|(dsimp only;exact Nat.ne_of_lt (Nat.lt_of_lt_of_le (by have:=World.block_lt_of_cell? _ _ hw410_0;first|rwa [add_block] at this|exact this) GW419.out))) (hHeld.2.2.2.2.1)),(far_7 (by first|exact Nat.ne_of_lt (Nat.lt_of_lt_of_le (by have:=World.block_lt_of_cell? _ _ hw410_1;first|rwa [add_block] at this|exact this) GW419.out)|(rw [add_block];exact Nat.ne_of_lt (Nat.lt_of_lt_of_le (by have:=World.block_lt_of_cell? _ _ hw410_1;first|rwa [add_block] at this|exact this) GW419.out))|(show (Addr.add _ _).block≠_;rw [add_block];exact Nat.ne_of_lt (Nat.lt_of_lt_of_le (by have:=World.block_lt_of_cell? _ _ hw410_1;first|rwa [add_block] at this|exact this) GW419.out))|(dsimp only;exact Nat.ne_of_lt (Nat.lt_of_lt_of_le (by have:=World.block_lt_of_cell? _ _ hw410_1;first|rwa [add_block] at this|exact this) GW419.out))) (hHeld.2.2.2.2.2.1)),(far_7 (by first|exact Nat.ne_of_lt (Nat.lt_of_lt_of_le (by have:=World.block_lt_of_cell? _ _ hw410_2;first|rwa [add_block] at this|exact this) GW419.out)|(rw [add_block];exact Nat.ne_of_lt (Nat.lt_of_lt_of_le (by have:=World.block_lt_of_cell? _ _ hw410_2;first|rwa [add_block] at this|exact this) GW419.out))|(show (Addr.add _ _).block≠_;rw [add_block];exact Nat.ne_of_lt (Nat.lt_of_lt_of_le (by have:=World.block_lt_of_cell? _ _ hw410_2;first|rwa [add_block] at this|exact this) GW419.out))|(dsimp only;exact Nat.ne_of_lt (Nat.lt_of_lt_of_le (by have:=World.block_lt_of_cell? _ _ hw410_2;first|rwa [add_block] at this|exact this) GW419.out))) (hHeld.2.2.2.2.2.2.1)),(far_7 (by first|exact Nat.ne_of_lt (Nat.lt_of_lt_of_le (by have:=World.block_lt_of_cell? _ _ hw410_3;first|rwa [add_block] at this|exact this) GW419.out)|(rw [add_block];exact Nat.ne_of_lt (Nat.lt_of_lt_of_le (by have:=World.block_lt_of_cell? _ _ hw410_3;first|rwa [add_block] at this|exact this) GW419.out))|(show (Addr.add _ _).block≠_;rw [add_block];exact Nat.ne_of_lt (Nat.lt_of_lt_of_le (by have:=World.block_lt_of_cell? _ _ hw410_3;first|rwa [add_block] at this|exact this) GW419.out))|(dsimp only;exact Nat.ne_of_lt (Nat.lt_of_lt_of_le (by have:=World.block_lt_of_cell? _ _ hw410_3;first|rwa [add_block] at this|exact this) GW419.out))) (hHeld.2.2.2.2.2.2.2.1)),(far_7 (by first|exact Nat.ne_of_lt (Nat.lt_of_lt_of_le (by have:=World.block_lt_of_cell? _ _ hw410_4;first|rwa [add_block] at this|exact this) GW419.out)|(rw [add_block];exact Nat.ne_of_lt (Nat.lt_of_lt_of_le (by have:=World.block_lt_of_cell? _ _ hw410_4;first|rwa [add_block] at this|exact this) GW419.out))|(show (Addr.add _ _).block≠_;rw [add_block];exact Nat.ne_of_lt (Nat.lt_of_lt_of_le (by have:=World.block_lt_of_cell? _ _ hw410_4;first|rwa [add_block] at this|exact this) GW419.out))|(dsimp only;exact Nat.ne_of_lt (Nat.lt_of_lt_of_le (by have:=World.block_lt_of_cell? _ _ hw410_4;first|rwa [add_block] at this|exact this) GW419.out))) (hHeld.2.2.2.2.2.2.2.2.1)),(far_7 (by first|exact Nat.ne_of_lt (Nat.lt_of_lt_of_le (by have:=World.block_lt_of_cell? _ _ hw410_5;first|rwa [add_block] at this|exact this) GW419.out)|(rw [add_block];exact Nat.ne_of_lt (Nat.lt_of_lt_of_le (by have:=World.block_lt_of_cell? _ _ hw410_5;first|rwa [add_block] at this|exact this) GW419.out))|(show (Addr.add _ _).block≠_;rw [add_block];exact Nat.ne_of_lt (Nat.lt_of_lt_of_le (by have:=World.block_lt_of_cell? _ _ hw410_5;first|rwa [add_block] at this|exact this) GW419.out))|(dsimp only;exact Nat.ne_of_lt (Nat.lt_of_lt_of_le (by have:=World.block_lt_of_cell? _ _ hw410_5;first|rwa [add_block] at this|exact this) GW419.out))) (hHeld.2.2.2.2.2.2.2.2.2.1)),(far_7 (by first|exact Nat.ne_of_lt (Nat.lt_of_lt_of_le (by have:=World.block_lt_of_cell? _ _ hw410_6;first|rwa [add_block] at this|exact this) GW419.out)|(rw [add_block];exact Nat.ne_of_lt (Nat.lt_of_lt_of_le (by have:=World.block_lt_of_cell? _ _ hw410_6;first|rwa [add_block] at this|exact this) GW419.out))|(show (Addr.add _ _).block≠_;rw [add_block];exact Nat.ne_of_lt (Nat.lt_of_lt_of_le (by have:=World.block_lt_of_cell? _ _ hw410_6;first|rwa [add_block] at this|exact this) GW419.out))|(dsimp only;exact Nat.ne_of_lt (Nat.lt_of_lt_of_le (by have:=World.block_lt_of_cell? _ _ hw410_6;first|rwa [add_block] at this|exact this) GW419.out))) (hHeld.2.2.2.2.2.2.2.2.2.2))⟩ (fun hHeld=>?_)
         clear hK K
         refine pure_ (i:=18) (N:=some 19) (v:=?_) (a':=?_) (sqB 19 524287) rfl rfl (any_of HT_.out (by kernel_rfl)) (fun _ _ _ h=>h) (Or.inl ⟨by rfl,?_⟩) ?_ ?_;rotate_left;intro w';go_simp;with_reducible rfl;rotate_left;simp only [Act.put,Y14,Y15,Y16];rfl
         refine done_ (done_of HT_.out (by kernel_rfl)) ?_
         try go_wp2
         have n0_:Aside0 ((((((((w122.setCell ⟨gb419,0,none⟩ (.int .i64 t411)).setCell ⟨gb419,1,none⟩ (.string t412)).setCell ⟨gb419,2,none⟩ (.int .i64 t413)).setCell ⟨gb419,3,none⟩ (.int .i64 t414)).setCell ⟨gb419,4,none⟩ (.bool t415)).setCell ⟨gb419,5,none⟩ (.int .i64 t416)).setCell ⟨gb419,6,none⟩ (.int .i64 t417)).heap[gb372]?=some (.cells #[.slice (some ad394) l0_0.length c0_0,.slice A0_1 l0_1.length c0_1] 46 (0,0))):=⟨by (with_reducible repeat first|apply Y11|apply Y13|apply Y12);refine blk_far ?_ NB372_419.out _;(with_reducible repeat first|apply Y11|apply Y13|apply Y12);refine blk_far ?_ NB372_419.out _;(with_reducible repeat first|apply Y11|apply Y13|apply Y12);refine blk_far ?_ NB372_419.out _;(with_reducible repeat first|apply Y11|apply Y13|apply Y12);refine blk_far ?_ NB372_419.out _;(with_reducible repeat first|apply Y11|apply Y13|apply Y12);refine blk_far ?_ NB372_419.out _;(with_reducible repeat first|apply Y11|apply Y13|apply Y12);refine blk_far ?_ NB372_419.out _;(with_reducible repeat first|apply Y11|apply Y13|apply Y12);refine blk_far ?_ NB372_419.out _;(with_reducible repeat first|apply Y11|apply Y13|apply Y12);exact BK372.out⟩
         have n1_:Aside0 ((((((((w122.setCell ⟨gb419,0,none⟩ (.int .i64 t411)).setCell ⟨gb419,1,none⟩ (.string t412)).setCell ⟨gb419,2,none⟩ (.int .i64 t413)).setCell ⟨gb419,3,none⟩ (.int .i64 t414)).setCell ⟨gb419,4,none⟩ (.bool t415)).setCell ⟨gb419,5,none⟩ (.int .i64 t416)).setCell ⟨gb419,6,none⟩ (.int .i64 t417)).heap[gb383]?=some (.cells #[.int .i64 t375,.string t376,.int .i64 t377,.int .i64 t378,.bool t379,.int .i64 t380,.int .i64 t381] 51 (0,0))):=⟨by (with_reducible repeat first|apply Y11|apply Y13|apply Y12);refine blk_far ?_ NB383_419.out _;(with_reducible repeat first|apply Y11|apply Y13|apply Y12);refine blk_far ?_ NB383_419.out _;(with_reducible repeat first|apply Y11|apply Y13|apply Y12);refine blk_far ?_ NB383_419.out _;(with_reducible repeat first|apply Y11|apply Y13|apply Y12);refine blk_far ?_ NB383_419.out _;(with_reducible repeat first|apply Y11|apply Y13|apply Y12);refine blk_far ?_ NB383_419.out _;(with_reducible repeat first|apply Y11|apply Y13|apply Y12);refine blk_far ?_ NB383_419.out _;(with_reducible repeat first|apply Y11|apply Y13|apply Y12);refine blk_far ?_ NB383_419.out _;(with_reducible repeat first|apply Y11|apply Y13|apply Y12);exact BK383.out⟩
         have n2_:Aside0 ((((((((w122.setCell ⟨gb419,0,none⟩ (.int .i64 t411)).setCell ⟨gb419,1,none⟩ (.string t412)).setCell ⟨gb419,2,none⟩ (.int .i64 t413)).setCell ⟨gb419,3,none⟩ (.int .i64 t414)).setCell ⟨gb419,4,none⟩ (.bool t415)).setCell ⟨gb419,5,none⟩ (.int .i64 t416)).setCell ⟨gb419,6,none⟩ (.int .i64 t417)).heap[gb392]?=some (.cells #[.int .i64 t384,.string t385,.int .i64 t386,.int .i64 t387,.bool t388,.int .i64 t389,.int .i64 t390] 51 (0,0))):=⟨by (with_reducible repeat first|apply Y11|apply Y13|apply Y12);refine blk_far ?_ NB392_419.out _;(with_reducible repeat first|apply Y11|apply Y13|apply Y12);refine blk_far ?_ NB392_419.out _;(with_reducible repeat first|apply Y11|apply Y13|apply Y12);refine blk_far ?_ NB392_419.out _;(with_reducible repeat first|apply Y11|apply Y13|apply Y12);refine blk_far ?_ NB392_419.out _;(with_reducible repeat first|apply Y11|apply Y13|apply Y12);refine blk_far ?_ NB392_419.out _;(with_reducible repeat first|apply Y11|apply Y13|apply Y12);refine blk_far ?_ NB392_419.out _;(with_reducible repeat first|apply Y11|apply Y13|apply Y12);refine blk_far ?_ NB392_419.out _;(with_reducible repeat first|apply Y11|apply Y13|apply Y12);exact BK392.out⟩
         have n3_:Aside0 ((((((((w122.setCell ⟨gb419,0,none⟩ (.int .i64 t411)).setCell ⟨gb419,1,none⟩ (.string t412)).setCell ⟨gb419,2,none⟩ (.int .i64 t413)).setCell ⟨gb419,3,none⟩ (.int .i64 t414)).setCell ⟨gb419,4,none⟩ (.bool t415)).setCell ⟨gb419,5,none⟩ (.int .i64 t416)).setCell ⟨gb419,6,none⟩ (.int .i64 t417)).heap[gb408]?=some (.cells #[.int .i64 t400,.string t401,.int .i64 t402,.int .i64 t403,.bool t404,.int .i64 t405,.int .i64 t406] 51 (0,0))):=⟨by (with_reducible repeat first|apply Y11|apply Y13|apply Y12);refine blk_far ?_ NB408_419.out _;(with_reducible repeat first|apply Y11|apply Y13|apply Y12);refine blk_far ?_ NB408_419.out _;(with_reducible repeat first|apply Y11|apply Y13|apply Y12);refine blk_far ?_ NB408_419.out _;(with_reducible repeat first|apply Y11|apply Y13|apply Y12);refine blk_far ?_ NB408_419.out _;(with_reducible repeat first|apply Y11|apply Y13|apply Y12);refine blk_far ?_ NB408_419.out _;(with_reducible repeat first|apply Y11|apply Y13|apply Y12);refine blk_far ?_ NB408_419.out _;(with_reducible repeat first|apply Y11|apply Y13|apply Y12);refine blk_far ?_ NB408_419.out _;(with_reducible repeat first|apply Y11|apply Y13|apply Y12);exact BK408.out⟩
         have n4_:Aside0 ((((((((w122.setCell ⟨gb419,0,none⟩ (.int .i64 t411)).setCell ⟨gb419,1,none⟩ (.string t412)).setCell ⟨gb419,2,none⟩ (.int .i64 t413)).setCell ⟨gb419,3,none⟩ (.int .i64 t414)).setCell ⟨gb419,4,none⟩ (.bool t415)).setCell ⟨gb419,5,none⟩ (.int .i64 t416)).setCell ⟨gb419,6,none⟩ (.int .i64 t417)).heap[gb419]?=some (.cells #[.int .i64 t411,.string t412,.int .i64 t413,.int .i64 t414,.bool t415,.int .i64 t416,.int .i64 t417] 51 (0,0))):=⟨by (with_reducible repeat first|apply Y11|apply Y13|apply Y12);refine blk_put (cs:=#[.int .i64 t411,.string t412,.int .i64 t413,.int .i64 t414,.bool t415,.int .i64 t416,.int .i64 0]) ?_ 6 _ rfl;(with_reducible repeat first|apply Y11|apply Y13|apply Y12);refine blk_put (cs:=#[.int .i64 t411,.string t412,.int .i64 t413,.int .i64 t414,.bool t415,.int .i64 0,.int .i64 0]) ?_ 5 _ rfl;(with_reducible repeat first|apply Y11|apply Y13|apply Y12);refine blk_put (cs:=#[.int .i64 t411,.string t412,.int .i64 t413,.int .i64 t414,.bool false,.int .i64 0,.int .i64 0]) ?_ 4 _ rfl;(with_reducible repeat first|apply Y11|apply Y13|apply Y12);refine blk_put (cs:=#[.int .i64 t411,.string t412,.int .i64 t413,.int .i64 0,.bool false,.int .i64 0,.int .i64 0]) ?_ 3 _ rfl;(with_reducible repeat first|apply Y11|apply Y13|apply Y12);refine blk_put (cs:=#[.int .i64 t411,.string t412,.int .i64 0,.int .i64 0,.bool false,.int .i64 0,.int .i64 0]) ?_ 2 _ rfl;(with_reducible repeat first|apply Y11|apply Y13|apply Y12);refine blk_put (cs:=#[.int .i64 t411,.string (⟨#[]⟩:ByteArray),.int .i64 0,.int .i64 0,.bool false,.int .i64 0,.int .i64 0]) ?_ 1 _ rfl;(with_reducible repeat first|apply Y11|apply Y13|apply Y12);refine blk_put (cs:=#[.int .i64 0,.string (⟨#[]⟩:ByteArray),.int .i64 0,.int .i64 0,.bool false,.int .i64 0,.int .i64 0]) ?_ 0 _ rfl;(with_reducible repeat first|apply Y11|apply Y13|apply Y12);exact BK419.out⟩
         have n5_:Aside0 (Below w.heap.size w (((((((w122.setCell ⟨gb419,0,none⟩ (.int .i64 t411)).setCell ⟨gb419,1,none⟩ (.string t412)).setCell ⟨gb419,2,none⟩ (.int .i64 t413)).setCell ⟨gb419,3,none⟩ (.int .i64 t414)).setCell ⟨gb419,4,none⟩ (.bool t415)).setCell ⟨gb419,5,none⟩ (.int .i64 t416)).setCell ⟨gb419,6,none⟩ (.int .i64 t417))):=⟨by repeat (with_reducible first|exact HB.out|apply Y3|apply Y1|apply Y2|refine Y4 ?_ GE372.out|refine Y4 ?_ GE383.out|refine Y4 ?_ GE392.out|refine Y4 ?_ GE408.out|refine Y4 ?_ GE419.out)⟩
         (try clear BK372)
         (try clear BK383)
         (try clear BK392)
         (try clear BK408)
         (try clear BK419)
         (try clear HB)
         generalize (((((((w122.setCell ⟨gb419,0,none⟩ (.int .i64 t411)).setCell ⟨gb419,1,none⟩ (.string t412)).setCell ⟨gb419,2,none⟩ (.int .i64 t413)).setCell ⟨gb419,3,none⟩ (.int .i64 t414)).setCell ⟨gb419,4,none⟩ (.bool t415)).setCell ⟨gb419,5,none⟩ (.int .i64 t416)).setCell ⟨gb419,6,none⟩ (.int .i64 t417))=w130 at n0_ n1_ n2_ n3_ n4_ n5_ ⊢
         have BK372:=n0_
         have BK383:=n1_
         have BK392:=n2_
         have BK408:=n3_
         have BK419:=n4_
         have HB:=n5_
         clear n0_ n1_ n2_ n3_ n4_ n5_
         have n0_:=Y0 (blk_drew BK372.out)
         have n1_:=Y0 (blk_drew BK383.out)
         have n2_:=Y0 (blk_drew BK392.out)
         have n3_:=Y0 (blk_drew BK408.out)
         have n4_:=Y0 (blk_drew BK419.out)
         have n5_:=Y0 (below_drew1 HB.out)
         clear BK372
         clear BK383
         clear BK392
         clear BK408
         clear BK419
         clear HB
         have BK372:=n0_
         have BK383:=n1_
         have BK392:=n2_
         have BK408:=n3_
         have BK419:=n4_
         have HB:=n5_
         clear n0_ n1_ n2_ n3_ n4_ n5_
         have p420:0≤(a1:Int):=of_decide_eq_true (by first|(with_reducible assumption)|assumption)
         have q420:a1 < (l0_0.length:Int):=of_decide_eq_true (by first|(with_reducible assumption)|assumption)
         obtain ⟨ad420,A420_1,c420_1,e420,hx420_0,hx420_1,hl420_1,hi420_1⟩:=at_T57 HR0_0.out a1 p420 q420
         have hw420_1:=hx420_1
         have hw420_0:=hx420_0
         obtain rfl:ad394=ad420:=(by injection e420)
         replace hx420_0:=(HB.out.cell (World.block_lt_of_cell? w _ hx420_0)).trans hx420_0
         replace hx420_1:=(HB.out.cell (World.block_lt_of_cell? w _ hx420_1)).trans hx420_1
         have HR420_1:=Y0 hi420_1
         have HC420_1:=Y0 hl420_1
         clear hi420_1 hl420_1
         replace p420:=eq_true p420
         replace q420:=eq_true q420
         have p421:0≤(x15_4:Int):=of_decide_eq_true (by first|(with_reducible assumption)|assumption)
         have q421:x15_4 < (((rd_T57 l0_0 a1).f1).length:Int):=of_decide_eq_true (by first|(with_reducible assumption)|assumption)
         obtain ⟨ad421,e421,hx421_0,hx421_1,hx421_2,hx421_3,hx421_4,hx421_5,hx421_6⟩:=at_T51 HR420_1.out x15_4 p421 q421
         have hw421_6:=hx421_6
         have hw421_5:=hx421_5
         have hw421_4:=hx421_4
         have hw421_3:=hx421_3
         have hw421_2:=hx421_2
         have hw421_1:=hx421_1
         have hw421_0:=hx421_0
         cases e421
         replace hx421_0:=(HB.out.cell (World.block_lt_of_cell? w _ hx421_0)).trans hx421_0
         replace hx421_1:=(HB.out.cell (World.block_lt_of_cell? w _ hx421_1)).trans hx421_1
         replace hx421_2:=(HB.out.cell (World.block_lt_of_cell? w _ hx421_2)).trans hx421_2
         replace hx421_3:=(HB.out.cell (World.block_lt_of_cell? w _ hx421_3)).trans hx421_3
         replace hx421_4:=(HB.out.cell (World.block_lt_of_cell? w _ hx421_4)).trans hx421_4
         replace hx421_5:=(HB.out.cell (World.block_lt_of_cell? w _ hx421_5)).trans hx421_5
         replace hx421_6:=(HB.out.cell (World.block_lt_of_cell? w _ hx421_6)).trans hx421_6
         replace p421:=eq_true p421
         replace q421:=eq_true q421
         refine start_ (n:=24) (S:=fun w'=>w'.cell? ⟨gb408,0,none⟩=some (.int .i64 t400)∧w'.cell? ⟨gb408,1,none⟩=some (.string t401)∧w'.cell? ⟨gb408,2,none⟩=some (.int .i64 t402)∧w'.cell? ⟨gb408,3,none⟩=some (.int .i64 t403)∧w'.cell? ⟨gb408,4,none⟩=some (.bool t404)∧w'.cell? ⟨gb408,5,none⟩=some (.int .i64 t405)∧w'.cell? ⟨gb408,6,none⟩=some (.int .i64 t406)∧w'.cell? ⟨gb372,0,none⟩=some (.slice (some ad394) l0_0.length c0_0)∧w'.cell? ⟨gb372,1,none⟩=some (.slice A0_1 l0_1.length c0_1)∧w'.cell? ⟨gb419,0,none⟩=some (.int .i64 t411)∧w'.cell? ⟨gb419,1,none⟩=some (.string t412)∧w'.cell? ⟨gb419,2,none⟩=some (.int .i64 t413)∧w'.cell? ⟨gb419,3,none⟩=some (.int .i64 t414)∧w'.cell? ⟨gb419,4,none⟩=some (.bool t415)∧w'.cell? ⟨gb419,5,none⟩=some (.int .i64 t416)∧w'.cell? ⟨gb419,6,none⟩=some (.int .i64 t417)∧w'.cell? (ad394.add ((a1).toNat * 2))=some (.string ((rd_T57 l0_0 a1).f0))∧w'.cell? ⟨(ad394.add ((a1).toNat * 2)).block,(ad394.add ((a1).toNat * 2)).off + 1,none⟩=some (.slice (some ad421) ((rd_T57 l0_0 a1).f1).length c420_1)∧w'.cell? (ad421.add ((x15_4).toNat * 7))=some (.int .i64 ((rd_T51 ((rd_T57 l0_0 a1).f1) x15_4).f0))∧w'.cell? ⟨(ad421.add ((x15_4).toNat * 7)).block,(ad421.add ((x15_4).toNat * 7)).off + 1,none⟩=some (.string ((rd_T51 ((rd_T57 l0_0 a1).f1) x15_4).f1))∧w'.cell? ⟨(ad421.add ((x15_4).toNat * 7)).block,(ad421.add ((x15_4).toNat * 7)).off + 2,none⟩=some (.int .i64 ((rd_T51 ((rd_T57 l0_0 a1).f1) x15_4).f2))∧w'.cell? ⟨(ad421.add ((x15_4).toNat * 7)).block,(ad421.add ((x15_4).toNat * 7)).off + 3,none⟩=some (.int .i64 ((rd_T51 ((rd_T57 l0_0 a1).f1) x15_4).f3))∧w'.cell? ⟨(ad421.add ((x15_4).toNat * 7)).block,(ad421.add ((x15_4).toNat * 7)).off + 4,none⟩=some (.bool ((rd_T51 ((rd_T57 l0_0 a1).f1) x15_4).f4))∧w'.cell? ⟨(ad421.add ((x15_4).toNat * 7)).block,(ad421.add ((x15_4).toNat * 7)).off + 5,none⟩=some (.int .i64 ((rd_T51 ((rd_T57 l0_0 a1).f1) x15_4).f5))∧w'.cell? ⟨(ad421.add ((x15_4).toNat * 7)).block,(ad421.add ((x15_4).toNat * 7)).off + 6,none⟩=some (.int .i64 ((rd_T51 ((rd_T57 l0_0 a1).f1) x15_4).f6))) (ds:=[]) #[false,false,false,false,false,false,false,false,false,false,false,false,false,false,false,false,false,false,false,false,false,false,false,false] (by kernel_rfl) rfl rfl ⟨(blk_cell BK408.out 0).trans rfl,(blk_cell BK408.out 1).trans rfl,(blk_cell BK408.out 2).trans rfl,(blk_cell BK408.out 3).trans rfl,(blk_cell BK408.out 4).trans rfl,(blk_cell BK408.out 5).trans rfl,(blk_cell BK408.out 6).trans rfl,(blk_cell BK372.out 0).trans rfl,(blk_cell BK372.out 1).trans rfl,(blk_cell BK419.out 0).trans rfl,(blk_cell BK419.out 1).trans rfl,(blk_cell BK419.out 2).trans rfl,(blk_cell BK419.out 3).trans rfl,(blk_cell BK419.out 4).trans rfl,(blk_cell BK419.out 5).trans rfl,(blk_cell BK419.out 6).trans rfl,((HB.out.cell (World.block_lt_of_cell? w _ hw420_0)).trans hw420_0),((HB.out.cell (World.block_lt_of_cell? w _ hw420_1)).trans hw420_1),((HB.out.cell (World.block_lt_of_cell? w _ hw421_0)).trans hw421_0),((HB.out.cell (World.block_lt_of_cell? w _ hw421_1)).trans hw421_1),((HB.out.cell (World.block_lt_of_cell? w _ hw421_2)).trans hw421_2),((HB.out.cell (World.block_lt_of_cell? w _ hw421_3)).trans hw421_3),((HB.out.cell (World.block_lt_of_cell? w _ hw421_4)).trans hw421_4),((HB.out.cell (World.block_lt_of_cell? w _ hw421_5)).trans hw421_5),((HB.out.cell (World.block_lt_of_cell? w _ hw421_6)).trans hw421_6)⟩ (fun hHeld=>?_);refine with_tabW trufflelaw08_TableFinds.tab16 trufflelaw08_TableFinds.bits16 (fun HT_ HW_=>?_)
         generalize w130.drew=w131 at BK372 BK383 BK392 BK408 BK419 HB HR420_1 hx420_0 hx420_1 hx421_0 hx421_1 hx421_2 hx421_3 hx421_4 hx421_5 hx421_6 hHeld ⊢
         refine pure_ (i:=0) (N:=some 137) (v:=?_) (a':=?_) (sqB 24 1) rfl rfl (any_of HT_.out (by kernel_rfl)) (fun _ _ _ h=>h) (Or.inl ⟨by rfl,?_⟩) ?_ ?_;rotate_left;intro w';go_simp;with_reducible rfl;rotate_left;simp only [Act.put,Y14,Y15,Y16];rfl
         refine pure_ (i:=1) (N:=some 138) (v:=?_) (a':=?_) (sqB 24 3) rfl rfl (any_of HT_.out (by kernel_rfl)) (fun _ _ _ h=>h) (Or.inl ⟨by rfl,?_⟩) ?_ ?_;rotate_left;intro w';go_simp;with_reducible rfl;rotate_left;simp only [Act.put,Y14,Y15,Y16];rfl
         refine pure_ (i:=2) (N:=some 139) (v:=?_) (a':=?_) (sqB 24 7) rfl rfl (any_of HT_.out (by kernel_rfl)) (fun _ _ _ h=>h) (Or.inl ⟨by rfl,?_⟩) ?_ ?_;rotate_left;intro w';go_simp;with_reducible rfl;rotate_left;simp only [Act.put,Y14,Y15,Y16];rfl
         refine pure_ (i:=3) (N:=some 140) (v:=?_) (a':=?_) (sqB 24 15) rfl rfl (any_of HT_.out (by kernel_rfl)) (fun _ _ _ h=>h) (Or.inl ⟨by rfl,?_⟩) ?_ ?_;rotate_left;intro w';go_simp;with_reducible rfl;rotate_left;simp only [Act.put,Y14,Y15,Y16];rfl
         refine pure_ (i:=4) (N:=some 141) (v:=?_) (a':=?_) (sqB 24 31) rfl rfl (any_of HT_.out (by kernel_rfl)) (fun _ _ _ h=>h) (Or.inl ⟨by rfl,?_⟩) ?_ ?_;rotate_left;intro w';go_simp;with_reducible rfl;rotate_left;simp only [Act.put,Y14,Y15,Y16];rfl
         refine pure_ (i:=5) (N:=some 142) (v:=?_) (a':=?_) (sqB 24 63) rfl rfl (any_of HT_.out (by kernel_rfl)) (fun _ _ _ h=>h) (Or.inl ⟨by rfl,?_⟩) ?_ ?_;rotate_left;intro w';go_simp;with_reducible rfl;rotate_left;simp only [Act.put,Y14,Y15,Y16];rfl
         refine pure_ (i:=6) (N:=some 143) (v:=?_) (a':=?_) (sqB 24 127) rfl rfl (any_of HT_.out (by kernel_rfl)) (fun _ _ _ h=>h) (Or.inl ⟨by rfl,?_⟩) ?_ ?_;rotate_left;intro w';go_simp;with_reducible rfl;rotate_left;simp only [Act.put,Y14,Y15,Y16];rfl
         refine pure_ (i:=8) (N:=some 145) (v:=?_) (a':=?_) (sqB 24 383) rfl rfl (any_of HT_.out (by kernel_rfl)) (fun _ _ _ h=>h) (Or.inl ⟨by rfl,?_⟩) ?_ ?_;rotate_left;intro w';go_simp;with_reducible rfl;rotate_left;simp only [Act.put,Y14,Y15,Y16];rfl
         refine pure_ (i:=10) (N:=some 147) (v:=?_) (a':=?_) (sqB 24 1407) rfl rfl (any_of HT_.out (by kernel_rfl)) (fun _ _ _ h=>h) (Or.inl ⟨by rfl,?_⟩) ?_ ?_;rotate_left;intro w';go_simp;with_reducible rfl;rotate_left;simp only [Act.put,Y14,Y15,Y16];rfl
         refine pure_ (i:=14) (N:=some 151) (v:=?_) (a':=?_) (sqB 24 17791) rfl rfl (any_of HT_.out (by kernel_rfl)) (fun _ _ _ h=>h) (Or.inl ⟨by rfl,?_⟩) ?_ ?_;rotate_left;intro w';go_simp;with_reducible rfl;rotate_left;simp only [Act.put,Y14,Y15,Y16];rfl
         refine take_ (i:=7) (N:=some 144) (v:=?_) (a':=?_) (sqB 24 17919) rfl rfl (take_ofW HT_.out HW_.out (by kernel_rfl)) (fun _ _ _ h=>h) (Or.inl ⟨by rfl,?_⟩) hHeld ?_ ?_;rotate_left;rintro w' ⟨s0,s1,s2,s3,s4,s5,s6,s7,s8,s9,s10,s11,s12,s13,s14,s15,s16,s17,s18,s19,s20,s21,s22,s23,s24⟩;go_simp;with_reducible rfl;rotate_left;simp only [Act.put,Y14,Y15,Y16];rfl
         refine take_ (i:=9) (N:=some 146) (v:=?_) (a':=?_) (sqB 24 18431) rfl rfl (take_ofW HT_.out HW_.out (by kernel_rfl)) (fun _ _ _ h=>h) (Or.inl ⟨by rfl,?_⟩) hHeld ?_ ?_;rotate_left;rintro w' ⟨s0,s1,s2,s3,s4,s5,s6,s7,s8,s9,s10,s11,s12,s13,s14,s15,s16,s17,s18,s19,s20,s21,s22,s23,s24⟩;go_simp;with_reducible rfl;rotate_left;simp only [Act.put,Y14,Y15,Y16];rfl
         refine pure_ (i:=11) (N:=some 148) (v:=?_) (a':=?_) (sqB 24 20479) rfl rfl (any_of HT_.out (by kernel_rfl)) (fun _ _ _ h=>h) (Or.inl ⟨by rfl,?_⟩) ?_ ?_;rotate_left;intro w';go_simp;with_reducible rfl;rotate_left;simp only [Act.put,Y14,Y15,Y16];rfl
         refine pure_ (i:=12) (N:=some 149) (v:=?_) (a':=?_) (sqB 24 24575) rfl rfl (any_of HT_.out (by kernel_rfl)) (fun _ _ _ h=>h) (Or.inl ⟨by rfl,?_⟩) ?_ ?_;rotate_left;intro w';go_simp;with_reducible rfl;rotate_left;simp only [Act.put,Y14,Y15,Y16];rfl
         refine take_ (i:=13) (N:=some 150) (v:=?_) (a':=?_) (sqB 24 32767) rfl rfl (take_ofW HT_.out HW_.out (by kernel_rfl)) (fun _ _ _ h=>h) (Or.inl ⟨by rfl,?_⟩) hHeld ?_ ?_;rotate_left;rintro w' ⟨s0,s1,s2,s3,s4,s5,s6,s7,s8,s9,s10,s11,s12,s13,s14,s15,s16,s17,s18,s19,s20,s21,s22,s23,s24⟩;go_simp;with_reducible rfl;rotate_left;simp only [Act.put,Y14,Y15,Y16];rfl
         refine pure_ (i:=15) (N:=some 152) (v:=?_) (a':=?_) (sqB 24 65535) rfl rfl (any_of HT_.out (by kernel_rfl)) (fun _ _ _ h=>h) (Or.inl ⟨by rfl,?_⟩) ?_ ?_;rotate_left;intro w';go_simp;with_reducible rfl;rotate_left;simp only [Act.put,Y14,Y15,Y16];rfl
         refine take_ (i:=16) (N:=some 153) (v:=?_) (a':=?_) (sqB 24 131071) rfl rfl (take_ofW HT_.out HW_.out (by kernel_rfl)) (fun _ _ _ h=>h) (Or.inl ⟨by rfl,?_⟩) hHeld ?_ ?_;rotate_left;rintro w' ⟨s0,s1,s2,s3,s4,s5,s6,s7,s8,s9,s10,s11,s12,s13,s14,s15,s16,s17,s18,s19,s20,s21,s22,s23,s24⟩;go_simp;with_reducible rfl;rotate_left;simp only [Act.put,Y14,Y15,Y16];rfl
         refine pure_ (i:=17) (N:=some 154) (v:=?_) (a':=?_) (sqB 24 262143) rfl rfl (any_of HT_.out (by kernel_rfl)) (fun _ _ _ h=>h) (Or.inl ⟨by rfl,?_⟩) ?_ ?_;rotate_left;intro w';go_simp;with_reducible rfl;rotate_left;simp only [Act.put,Y14,Y15,Y16];rfl
         refine pure_ (i:=18) (N:=some 155) (v:=?_) (a':=?_) (sqB 24 524287) rfl rfl (any_of HT_.out (by kernel_rfl)) (fun _ _ _ h=>h) (Or.inl ⟨by rfl,?_⟩) ?_ ?_;rotate_left;intro w';go_simp;with_reducible rfl;rotate_left;simp only [Act.put,Y14,Y15,Y16];rfl
         refine pure_ (i:=19) (N:=some 156) (v:=?_) (a':=?_) (sqB 24 1048575) rfl rfl (any_of HT_.out (by kernel_rfl)) (fun _ _ _ h=>h) (Or.inl ⟨by rfl,?_⟩) ?_ ?_;rotate_left;intro w';go_simp;with_reducible rfl;rotate_left;simp only [Act.put,Y14,Y15,Y16];rfl
         refine take_ (i:=20) (N:=some 157) (v:=?_) (a':=?_) (sqB 24 2097151) rfl rfl (take_ofW HT_.out HW_.out (by kernel_rfl)) (fun _ _ _ h=>h) (Or.inl ⟨by rfl,?_⟩) hHeld ?_ ?_;rotate_left;rintro w' ⟨s0,s1,s2,s3,s4,s5,s6,s7,s8,s9,s10,s11,s12,s13,s14,s15,s16,s17,s18,s19,s20,s21,s22,s23,s24⟩;go_simp;with_reducible rfl;rotate_left;simp only [Act.put,Y14,Y15,Y16];rfl
         refine take_ (i:=21) (N:=some 158) (v:=?_) (a':=?_) (sqB 24 4194303) rfl rfl (take_ofW HT_.out HW_.out (by kernel_rfl)) (fun _ _ _ h=>h) (Or.inl ⟨by rfl,?_⟩) hHeld ?_ ?_;rotate_left;rintro w' ⟨s0,s1,s2,s3,s4,s5,s6,s7,s8,s9,s10,s11,s12,s13,s14,s15,s16,s17,s18,s19,s20,s21,s22,s23,s24⟩;go_simp;with_reducible rfl;rotate_left;simp only [Act.put,Y14,Y15,Y16];rfl
         refine pure_ (i:=22) (N:=some 159) (v:=?_) (a':=?_) (sqB 24 8388607) rfl rfl (any_of HT_.out (by kernel_rfl)) (fun _ _ _ h=>h) (Or.inl ⟨by rfl,?_⟩) ?_ ?_;rotate_left;intro w';go_simp;with_reducible rfl;rotate_left;simp only [Act.put,Y14,Y15,Y16];rfl
         refine pure_ (i:=23) (N:=some 160) (v:=?_) (a':=?_) (sqB 24 16777215) rfl rfl (any_of HT_.out (by kernel_rfl)) (fun _ _ _ h=>h) (Or.inl ⟨by rfl,?_⟩) ?_ ?_;rotate_left;intro w';go_simp;with_reducible rfl;rotate_left;simp only [Act.put,Y14,Y15,Y16];rfl
         refine done_ (done_of HT_.out (by kernel_rfl)) ?_
         try go_wp2
         go_roundg k4
         case measure=>have:=HJ6.out;have:=HJ15.out;have:=HJ75.out;have:=HK4.out;omega
         case rel=>exact ⟨(wrap64 (x15_4 + 1)),(by first|rfl|(simp;done)|(simp [*];done)),H',⟨by have:=HJ6.out;have:=HJ15.out;have:=HJ75.out;have:=HK4.out;omega⟩,⟨by (with_reducible repeat first|apply Y11|apply Y13|apply Y12);exact BK372.out⟩,⟨by (with_reducible repeat first|apply Y11|apply Y13|apply Y12);exact BK383.out⟩,⟨by (with_reducible repeat first|apply Y11|apply Y13|apply Y12);exact BK392.out⟩,⟨by repeat (with_reducible first|exact HB.out|apply Y3|apply Y1|apply Y2|refine Y4 ?_ GE372.out|refine Y4 ?_ GE383.out|refine Y4 ?_ GE392.out|refine Y4 ?_ GE408.out|refine Y4 ?_ GE419.out)⟩⟩
end Go.Proofs.YtddpjjhekhompaaGreatDoor.P
