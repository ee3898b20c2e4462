/- Part 9 of what the law TableMay leans on: contracts of the functions that it reaches, and plain lemmas; printed walks and words (by the kit's print, through wip/mp.py) and the session's own texts, one behind the other, what is not used left out (wip/prune.py). -/
import Derived.Test.YtddpjjhekhompaaGreatDoorMTableMay1
import Derived.Test.YtddpjjhekhompaaGreatDoorMTableMay2
import Derived.Test.YtddpjjhekhompaaGreatDoorMTableMay3
import Derived.Test.YtddpjjhekhompaaGreatDoorMTableMay4
import Derived.Test.YtddpjjhekhompaaGreatDoorMTableMay5
import Derived.Test.YtddpjjhekhompaaGreatDoorMTableMay6
import Derived.Test.YtddpjjhekhompaaGreatDoorMTableMay7
import Derived.Test.YtddpjjhekhompaaGreatDoorMTableMay8
namespace Go.Proofs.YtddpjjhekhompaaGreatDoor.P
open Go.RowKit Go.Proofs.YtddpjjhekhompaaGreatDoorW.PrintWords Go.Proofs.YtddpjjhekhompaaGreatDoorW.PrintLast Go.Proofs.YtddpjjhekhompaaGreatDoorW.PrintMore
set_option linter.unusedVariables false
set_option linter.unusedSimpArgs false
attribute [local go_sem high] eqA51
mutual
def trufflelaw08_TableMay.j0:Nat→Bool→Bool→List (S34)→List (S68)→Option (Bool)
 | 0,_,_,_,_=>none
 | k + 1,x3,x23,x330000,x330001=>if x23=true then (some x3) else ((table_Resolve.f x330000 x330001).bind fun bt332=>(if bt332.2.2.2=0 then ((table_May.f bt332.1 bt332.2.1).bind fun t341=>(if t341=true then (if bt332.2.2.1=0 then (if (bt332.1.length:Int)=(x330000.length:Int) then (trufflelaw08_TableMay.j1 k ((bt332.2.1.length:Int) != (x330001.length:Int)) x330000 x330001 bt332.1 bt332.2.1) else (trufflelaw08_TableMay.j1 k true x330000 x330001 bt332.1 bt332.2.1)) else (trufflelaw08_TableMay.j1 k true x330000 x330001 bt332.1 bt332.2.1)) else (trufflelaw08_TableMay.j1 k true x330000 x330001 bt332.1 bt332.2.1))) else (if (bt332.1.length:Int)=0 then (some ((bt332.2.1.length:Int) == 0)) else (some false))))
def trufflelaw08_TableMay.j1:Nat→Bool→List (S34)→List (S68)→List (S57)→List (S119)→Option (Bool)
 | 0,_,_,_,_,_=>none
 | k + 1,x67,x330000,x330001,x341000,x341001=>if x67=true then (some false) else (trufflelaw08_TableMay.l0 k 0 x330000 x330001 x341000 x341001)
def trufflelaw08_TableMay.l0:Nat→Int→List (S34)→List (S68)→List (S57)→List (S119)→Option (Bool)
 | 0,_,_,_,_,_=>none
 | k + 1,x8,x330000,x330001,x341000,x341001=>if x8 < (x330000.length:Int) then (trufflelaw08_TableMay.l1 k x8 0 x330000 x330001 x341000 x341001) else (some true)
def trufflelaw08_TableMay.l1:Nat→Int→Int→List (S34)→List (S68)→List (S57)→List (S119)→Option (Bool)
 | 0,_,_,_,_,_,_=>none
 | k + 1,x8,x9,x330000,x330001,x341000,x341001=>if 0≤x8 then (if x8 < (x330000.length:Int) then (if x9 < (((rd_T34 x330000 x8).f1).length:Int) then (if 0≤x9 then ((table_Find.f x341000 x341001 x8 ((rd_T36 ((rd_T34 x330000 x8).f1) x9).f4)).bind fun bt350=>((table_By.f x341000 x341001 x8 ((rd_T36 ((rd_T34 x330000 x8).f1) x9).f5)).bind fun bt359=>(if bt350.2.2.2.2.2.2.2=true then (if bt359.2.2.2.2.2.2.2=true then (if (!(bt350.1 == bt359.1) || (!(bt350.2.1.toList == bt359.2.1.toList) || (!(bt350.2.2.1 == bt359.2.2.1) || (!(bt350.2.2.2.1 == bt359.2.2.2.1) || (!(bt350.2.2.2.2.1 == bt359.2.2.2.2.1) || (!(bt350.2.2.2.2.2.1 == bt359.2.2.2.2.2.1) || (!(bt350.2.2.2.2.2.2.1 == bt359.2.2.2.2.2.2.1))))))))=true then (some false) else (if bt350.1=((rd_T36 ((rd_T34 x330000 x8).f1) x9).f5) then (if (bt350.2.2.2.2.1 != ((rd_T36 ((rd_T34 x330000 x8).f1) x9).f2))=true then (some false) else (if bt350.2.2.2.2.2.2.1=((rd_T36 ((rd_T34 x330000 x8).f1) x9).f3) then (if ((bt350.2.2.2.2.2.1 == (-1)) != (((rd_T36 ((rd_T34 x330000 x8).f1) x9).f1).toList == ([]:List UInt8)))=true then (some false) else (trufflelaw08_TableMay.l1 k x8 (wrap64 (x9 + 1)) x330000 x330001 x341000 x341001)) else (some false))) else (some false))) else (some false)) else (some false)))) else (none)) else (if x8 < (x341000.length:Int) then (if (((rd_T57 x341000 x8).f1).length:Int)=(((rd_T34 x330000 x8).f1).length:Int) then (if ((rd_T57 x341000 x8).f0).toList=((rd_T34 x330000 x8).f0).toList then (trufflelaw08_TableMay.l0 k (wrap64 (x8 + 1)) x330000 x330001 x341000 x341001) else (some false)) else (some false)) else (none))) else (none)) else (none)
end
def trufflelaw08_TableMay.f (k:Nat) (l0_0:List (S34)) (l0_1:List (S68)):Option (Bool):=(trufflelaw08_awake.f).bind fun t330=>((trufflelaw08_few.f k l0_0 l0_1).bind fun t331=>(if t330=true then (trufflelaw08_TableMay.j0 k t330 (!t331) l0_0 l0_1) else (trufflelaw08_TableMay.j0 k t330 true l0_0 l0_1)))
set_option maxHeartbeats 8000000 in
set_option maxRecDepth 100000 in
theorem trufflelaw08_TableMay.calls (k:Nat) (A0_0:Option Addr) (c0_0:Nat) (l0_0:List (S34)) (A0_1:Option Addr) (c0_1:Nat) (l0_1:List (S68)) (w:World) (hG:GInv w) (hr0_0:Kd.C k34 w A0_0 l0_0.length l0_0) (hc0_0:l0_0.length≤c0_0) (hr0_1:Kd.C k68 w A0_1 l0_1.length l0_1) (hc0_1:l0_1.length≤c0_1) (h:trufflelaw08_TableMay.f k l0_0 l0_1=some true) :
  Calls Tryz.prog 6 #[.agg #[.slice A0_0 l0_0.length c0_0,.slice A0_1 l0_1.length c0_1]] w fun e w'=>e = .returned (.bool true)∧Below w.heap.size w w':=by
 have hu26:=Tryz.underlying26
 have hu46:=Tryz.underlying46
 have hu36:=Tryz.underlying36
 have hu51:=Tryz.underlying51
 have HR0_0:=Y0 hr0_0
 have HC0_0:=Y0 hc0_0
 clear hr0_0 hc0_0
 have HR0_1:=Y0 hr0_1
 have HC0_1:=Y0 hc0_1
 clear hr0_1 hc0_1
 have HB:=Y0 (Below.refl w.heap.size w)
 have H:((trufflelaw08_awake.f).bind fun t330=>((trufflelaw08_few.f k l0_0 l0_1).bind fun t331=>(if t330=true then (trufflelaw08_TableMay.j0 k t330 (!t331) l0_0 l0_1) else (trufflelaw08_TableMay.j0 k t330 true l0_0 l0_1))))=some true:=h
 clear h
 replace H:=Y17.mp H
 obtain ⟨t330,A20,H⟩:=H
 try dsimp only at H
 have A2:=Y0 A20
 clear A20
 replace H:=Y17.mp H
 obtain ⟨t331,A30,H⟩:=H
 try dsimp only at H
 have A3:=Y0 A30
 clear A30
 have HC4:=Y0 H
 clear H
 go_enter Tryz.func6,Tryz.ntmps6
 go_upto_region 3 with (first|((with_reducible refine gate_dst (N:=1) rfl ?_);(try (refine gate_guard (by rfl) ?_;dsimp only));refine box_event ?hg (N:=1) ?hd (cs:=#[.slice A0_0 l0_0.length c0_0,.slice A0_1 l0_1.length c0_1]) (t:=26) ?hr ?_;(case hd=>rfl);(case hg=>rfl);(case hr=>first|(go_simp;done)|(go_simp;rfl));intro gb329 hg w5 hbox hb;have n0_:=Y0 (below_step (by repeat (with_reducible first|exact HB.out|apply Y3|apply Y1|apply Y2)) hb);have n1_:=Y0 (hbox);have n2_:=Y0 ((by rw [hg];exact (below_size (by repeat (with_reducible first|exact HB.out|apply Y3|apply Y1|apply Y2))):w.heap.size≤gb329));have n3_:=Y0 ((by rw [hg];exact (below_size (by repeat (with_reducible first|exact HB.out|apply Y3|apply Y1|apply Y2))):w.heap.size≤gb329));clear HB;have HB:=n0_;have BK329:=n1_;have GW329:=n2_;have GE329:=n3_;clear n0_ n1_ n2_ n3_;clear hb hbox hg)|(go_at_call 16;(with_reducible refine (trufflelaw08_awake.calls  t330 _ ?side1 A2.out).mono ?_);(case side1=>exact hG.below (by repeat (with_reducible first|exact HB.out|apply Y3|apply Y1|apply Y2|refine Y4 ?_ GE329.out)));rintro e w6 ⟨rfl,hb⟩;have n0_:=Y0 (blk_below (g:=gb329) (o:=.cells #[.slice A0_0 l0_0.length c0_0,.slice A0_1 l0_1.length c0_1] 26 (0,0)) (by (with_reducible repeat first|apply Y11|apply Y13|apply Y12);exact BK329.out) hb);have n1_:=Y0 (below_step (by repeat (with_reducible first|exact HB.out|apply Y3|apply Y1|apply Y2|refine Y4 ?_ GE329.out)) hb);clear BK329;clear HB;have BK329:=n0_;have HB:=n1_;clear n0_ n1_;(try clear hb);(try clear hb2);(try clear hk);(try clear hi);have ⟨hcz7_0,hcz7_1,hfz7_0,hfz7_1⟩:=sq_box2 BK329.out)|(go_at_call 17;(with_reducible refine (trufflelaw08_few.calls k _ _ l0_0 _ _ l0_1 t331 _ ?side1 ?side2 ?side3 ?side4 A3.out).mono ?_);(case side1=>repeat (first|exact (Kd.C_below HR0_0.out HB.out)|(with_reducible refine Y8 ?_ _)|(with_reducible refine Kd.C_drewN ?_ _)|(with_reducible refine Kd.C_drew ?_)));(case side2=>exact HC0_0.out);(case side3=>repeat (first|exact (Kd.C_below HR0_1.out HB.out)|(with_reducible refine Y8 ?_ _)|(with_reducible refine Kd.C_drewN ?_ _)|(with_reducible refine Kd.C_drew ?_)));(case side4=>exact HC0_1.out);rintro e w8 ⟨rfl,hb⟩;have n0_:=Y0 (blk_below (g:=gb329) (o:=.cells #[.slice A0_0 l0_0.length c0_0,.slice A0_1 l0_1.length c0_1] 26 (0,0)) (by (with_reducible repeat first|apply Y11|apply Y13|apply Y12);exact BK329.out) hb);have n1_:=Y0 (below_step (by repeat (with_reducible first|exact HB.out|apply Y3|apply Y1|apply Y2|refine Y4 ?_ GE329.out)) hb);clear BK329;clear HB;have BK329:=n0_;have HB:=n1_;clear n0_ n1_;(try clear hb);(try clear hb2);(try clear hk);(try clear hi)))
 repeat (go_quiet (fail);try go_wp2)
 (try simp only [Act.put,Y14,Y15,Y16])
 go_cut [23] (fun v23 wc=>∃ (kq:Nat) (x23_3:Bool),v23 = .bool x23_3∧Aside0 (trufflelaw08_TableMay.j0 kq t330 x23_3 l0_0 l0_1=some true)∧Aside0 (kq≤k)∧Aside0 (wc.heap[gb329]?=some (.cells #[(.slice A0_0 l0_0.length c0_0),(.slice A0_1 l0_1.length c0_1)] 26 (0,0)))∧Aside0 (Below w.heap.size w wc))
 case first =>
  have H:=HC4.out
  clear HC4
  by_cases c9:t330=true
  ·subst c9
   rw [if_pos rfl] at H
   have H':=Y0 H
   clear H
   go_wp2
   repeat (go_quiet (fail);try go_wp2)
   go_meet
   case rel=>exact ⟨_,(!t331),(by first|rfl|(simp;done)|(simp [*];done)),H',⟨by first|omega|exact Nat.le_refl _⟩,⟨by (with_reducible repeat first|apply Y11|apply Y13|apply Y12);exact BK329.out⟩,⟨by repeat (with_reducible first|exact HB.out|apply Y3|apply Y1|apply Y2|refine Y4 ?_ GE329.out)⟩⟩
  replace c9:=Bool.eq_false_iff.mpr c9
  subst c9
  rw [if_neg (show ¬ (false=true) by decide)] at H
  have H':=Y0 H
  clear H
  go_wp2
  repeat (go_quiet (fail);try go_wp2)
  go_meet
  case rel=>exact ⟨_,(true),(by first|rfl|(simp;done)|(simp [*];done)),H',⟨by first|omega|exact Nat.le_refl _⟩,⟨by (with_reducible repeat first|apply Y11|apply Y13|apply Y12);exact BK329.out⟩,⟨by repeat (with_reducible first|exact HB.out|apply Y3|apply Y1|apply Y2|refine Y4 ?_ GE329.out)⟩⟩
 case rest =>
  clear HC4
  obtain ⟨kq,x23_3,rfl,HA,HJ3,BK329,HB⟩:=hcut
  cases kq with
  | zero=>exact absurd HA.out (by simp [trufflelaw08_TableMay.j0])
  | succ kj3 =>
   have H:=HA.out
   clear HA
   simp only [trufflelaw08_TableMay.j0] at H
   by_cases c10:x23_3=true
   ·subst c10
    rw [if_pos rfl] at H
    have hv_:=Option.some.inj H
    go_wp2
    repeat (go_quiet (fail);try go_wp2)
    go_ret
    exact ⟨by first|rfl|(rw [hv_];done)|(simp [hv_];done)|(simp [← hv_];done)|(simp [] <;> rfl)|(simp [*] <;> rfl),by repeat (with_reducible first|exact HB.out|apply Y3|apply Y1|apply Y2|refine Y4 ?_ GE329.out)⟩
   replace c10:=Bool.eq_false_iff.mpr c10
   subst c10
   rw [if_neg (show ¬ (false=true) by decide)] at H
   replace H:=Y17.mp H
   obtain ⟨⟨t332,t335,t338,t339⟩,A110,H⟩:=H
   try dsimp only at H
   have A11:=Y0 A110
   clear A110
   by_cases c12:t339=0
   rotate_left
   ·rw [if_neg c12] at H
    have c12b0:(t339 == 0)=false:=beq_eq_false_iff_ne.mpr c12
    have c12b1:(t339 != 0)=true:=bne_iff_ne.mpr c12
    by_cases c90:(t332.length:Int)=0
    rotate_left
    ·rw [if_neg c90] at H
     have c90b0:((t332.length:Int) == 0)=false:=beq_eq_false_iff_ne.mpr c90
     have c90b1:((t332.length:Int) != 0)=true:=bne_iff_ne.mpr c90
     have c90b2:¬ (t332=[]):=fun h_=>c90 (by rw [h_];rfl)
     exact absurd (Option.some.inj H) Bool.false_ne_true
    rw [if_pos c90] at H
    have c90b0:((t332.length:Int) == 0)=true:=beq_iff_eq.mpr c90
    have c90b1:((t332.length:Int) != 0)=false:=bne_eq_false_iff_eq.mpr c90
    clear c90
    have hv_:=Option.some.inj H
    have ⟨hcz91_0,hcz91_1,hfz91_0,hfz91_1⟩:=sq_box2 BK329.out
    go_wp2_with (first|(go_at_call 18;(with_reducible refine (table_Resolve.calls _ _ l0_0 _ _ l0_1 t332 t335 t338 t339 _ ?side1 ?side2 ?side3 ?side4 A11.out).mono ?_);(case side1=>repeat (first|exact (Kd.C_below HR0_0.out HB.out)|(with_reducible refine Y8 ?_ _)|(with_reducible refine Kd.C_drewN ?_ _)|(with_reducible refine Kd.C_drew ?_)));(case side2=>exact HC0_0.out);(case side3=>repeat (first|exact (Kd.C_below HR0_1.out HB.out)|(with_reducible refine Y8 ?_ _)|(with_reducible refine Kd.C_drewN ?_ _)|(with_reducible refine Kd.C_drew ?_)));(case side4=>exact HC0_1.out);rintro e w92 ⟨v333,v336,rfl,ho0,ho1,hb⟩;have n0_:=Y0 (Kd.R_lower ho0 (below_size (by repeat (with_reducible first|exact HB.out|apply Y3|apply Y1|apply Y2|refine Y4 ?_ GE329.out))));have n1_:=Y0 (Kd.R_lower ho1 (below_size (by repeat (with_reducible first|exact HB.out|apply Y3|apply Y1|apply Y2|refine Y4 ?_ GE329.out))));have n2_:=Y0 (blk_below (g:=gb329) (o:=.cells #[.slice A0_0 l0_0.length c0_0,.slice A0_1 l0_1.length c0_1] 26 (0,0)) (by (with_reducible repeat first|apply Y11|apply Y13|apply Y12);exact BK329.out) hb);have n3_:=Y0 (below_step (by repeat (with_reducible first|exact HB.out|apply Y3|apply Y1|apply Y2|refine Y4 ?_ GE329.out)) hb);clear BK329;clear HB;have HO334:=n0_;have HO337:=n1_;have BK329:=n2_;have HB:=n3_;clear n0_ n1_ n2_ n3_;(try clear hb);(try clear hb2);(try clear hk);(try clear hi);(try clear ho0);(try clear ho1))|((with_reducible refine gate_dst (N:=5) rfl ?_);(try (refine gate_guard (by rfl) ?_;dsimp only));refine box_event ?hg (N:=5) ?hd (cs:=#[.slice none 0 0,.slice none 0 0]) (t:=46) ?hr ?_;(case hd=>rfl);(case hg=>rfl);(case hr=>first|(go_simp;done)|(go_simp;rfl));intro gb340 hg w93 hbox hb;have n0_:=Y0 (Kd.R_below (by (with_reducible repeat (first|apply Y5|apply Y6|apply Y7));exact HO334.out) hb);have n1_:=Y0 (Kd.R_below (by (with_reducible repeat (first|apply Y5|apply Y6|apply Y7));exact HO337.out) hb);have n2_:=Y0 (blk_below (g:=gb329) (o:=.cells #[.slice A0_0 l0_0.length c0_0,.slice A0_1 l0_1.length c0_1] 26 (0,0)) (by (with_reducible repeat first|apply Y11|apply Y13|apply Y12);exact BK329.out) hb);have n3_:=Y0 (below_step (by repeat (with_reducible first|exact HB.out|apply Y3|apply Y1|apply Y2|refine Y4 ?_ GE329.out)) hb);have n4_:=Y0 (hbox);have n5_:=Y0 ((by rw [hg];exact (below_size (by repeat (with_reducible first|exact HB.out|apply Y3|apply Y1|apply Y2|refine Y4 ?_ GE329.out))):w.heap.size≤gb340));have n6_:=Y0 ((by rw [hg];exact (below_size (by repeat (with_reducible first|exact HB.out|apply Y3|apply Y1|apply Y2|refine Y4 ?_ GE329.out))):w.heap.size≤gb340));have n7_:=Y0 ((by rw [hg];exact Nat.ne_of_lt (blk_lt (g:=gb329) (o:=.cells #[.slice A0_0 l0_0.length c0_0,.slice A0_1 l0_1.length c0_1] 26 (0,0)) (by (with_reducible repeat first|apply Y11|apply Y13|apply Y12);exact BK329.out)):gb329≠gb340));have n8_:=Y0 ((by rw [hg];exact Nat.ne_of_gt (blk_lt (g:=gb329) (o:=.cells #[.slice A0_0 l0_0.length c0_0,.slice A0_1 l0_1.length c0_1] 26 (0,0)) (by (with_reducible repeat first|apply Y11|apply Y13|apply Y12);exact BK329.out)):gb340≠gb329));clear HO334;clear HO337;clear BK329;clear HB;have HO334:=n0_;have HO337:=n1_;have BK329:=n2_;have HB:=n3_;have BK340:=n4_;have GW340:=n5_;have GE340:=n6_;have NB329_340:=n7_;have NB340_329:=n8_;clear n0_ n1_ n2_ n3_ n4_ n5_ n6_ n7_ n8_;clear hb hbox hg;obtain ⟨Ao94,co94,eo94⟩:=Kd.R_slice HO334.out;subst eo94;have hnb95:=NB340_329.out;have hnc95:=NB329_340.out;have ⟨hcz96_0,hcz96_1,hfz96_0,hfz96_1⟩:=sq_box2 BK340.out;obtain ⟨Ao97,co97,eo97⟩:=Kd.R_slice HO337.out;subst eo97))
    repeat (go_quiet (fail);try go_wp2)
    go_ret
    exact ⟨by first|rfl|(rw [hv_];done)|(simp [hv_];done)|(simp [← hv_];done)|(simp [] <;> rfl)|(simp [*] <;> rfl),by repeat (with_reducible first|exact HB.out|apply Y3|apply Y1|apply Y2|refine Y4 ?_ GE329.out|refine Y4 ?_ GE340.out)⟩
   rw [if_pos c12] at H
   have c12b0:(t339 == 0)=true:=beq_iff_eq.mpr c12
   have c12b1:(t339 != 0)=false:=bne_eq_false_iff_eq.mpr c12
   clear c12
   have HC13:=Y0 H
   clear H
   have ⟨hcz14_0,hcz14_1,hfz14_0,hfz14_1⟩:=sq_box2 BK329.out
   go_upto_region 8 with (first|(go_at_call 18;(with_reducible refine (table_Resolve.calls _ _ l0_0 _ _ l0_1 t332 t335 t338 t339 _ ?side1 ?side2 ?side3 ?side4 A11.out).mono ?_);(case side1=>repeat (first|exact (Kd.C_below HR0_0.out HB.out)|(with_reducible refine Y8 ?_ _)|(with_reducible refine Kd.C_drewN ?_ _)|(with_reducible refine Kd.C_drew ?_)));(case side2=>exact HC0_0.out);(case side3=>repeat (first|exact (Kd.C_below HR0_1.out HB.out)|(with_reducible refine Y8 ?_ _)|(with_reducible refine Kd.C_drewN ?_ _)|(with_reducible refine Kd.C_drew ?_)));(case side4=>exact HC0_1.out);rintro e w15 ⟨v333,v336,rfl,ho0,ho1,hb⟩;have n0_:=Y0 (Kd.R_lower ho0 (below_size (by repeat (with_reducible first|exact HB.out|apply Y3|apply Y1|apply Y2|refine Y4 ?_ GE329.out))));have n1_:=Y0 (Kd.R_lower ho1 (below_size (by repeat (with_reducible first|exact HB.out|apply Y3|apply Y1|apply Y2|refine Y4 ?_ GE329.out))));have n2_:=Y0 (blk_below (g:=gb329) (o:=.cells #[.slice A0_0 l0_0.length c0_0,.slice A0_1 l0_1.length c0_1] 26 (0,0)) (by (with_reducible repeat first|apply Y11|apply Y13|apply Y12);exact BK329.out) hb);have n3_:=Y0 (below_step (by repeat (with_reducible first|exact HB.out|apply Y3|apply Y1|apply Y2|refine Y4 ?_ GE329.out)) hb);clear BK329;clear HB;have HO334:=n0_;have HO337:=n1_;have BK329:=n2_;have HB:=n3_;clear n0_ n1_ n2_ n3_;(try clear hb);(try clear hb2);(try clear hk);(try clear hi);(try clear ho0);(try clear ho1))|((with_reducible refine gate_dst (N:=5) rfl ?_);(try (refine gate_guard (by rfl) ?_;dsimp only));refine box_event ?hg (N:=5) ?hd (cs:=#[.slice none 0 0,.slice none 0 0]) (t:=46) ?hr ?_;(case hd=>rfl);(case hg=>rfl);(case hr=>first|(go_simp;done)|(go_simp;rfl));intro gb340 hg w16 hbox hb;have n0_:=Y0 (Kd.R_below (by (with_reducible repeat (first|apply Y5|apply Y6|apply Y7));exact HO334.out) hb);have n1_:=Y0 (Kd.R_below (by (with_reducible repeat (first|apply Y5|apply Y6|apply Y7));exact HO337.out) hb);have n2_:=Y0 (blk_below (g:=gb329) (o:=.cells #[.slice A0_0 l0_0.length c0_0,.slice A0_1 l0_1.length c0_1] 26 (0,0)) (by (with_reducible repeat first|apply Y11|apply Y13|apply Y12);exact BK329.out) hb);have n3_:=Y0 (below_step (by repeat (with_reducible first|exact HB.out|apply Y3|apply Y1|apply Y2|refine Y4 ?_ GE329.out)) hb);have n4_:=Y0 (hbox);have n5_:=Y0 ((by rw [hg];exact (below_size (by repeat (with_reducible first|exact HB.out|apply Y3|apply Y1|apply Y2|refine Y4 ?_ GE329.out))):w.heap.size≤gb340));have n6_:=Y0 ((by rw [hg];exact (below_size (by repeat (with_reducible first|exact HB.out|apply Y3|apply Y1|apply Y2|refine Y4 ?_ GE329.out))):w.heap.size≤gb340));have n7_:=Y0 ((by rw [hg];exact Nat.ne_of_lt (blk_lt (g:=gb329) (o:=.cells #[.slice A0_0 l0_0.length c0_0,.slice A0_1 l0_1.length c0_1] 26 (0,0)) (by (with_reducible repeat first|apply Y11|apply Y13|apply Y12);exact BK329.out)):gb329≠gb340));have n8_:=Y0 ((by rw [hg];exact Nat.ne_of_gt (blk_lt (g:=gb329) (o:=.cells #[.slice A0_0 l0_0.length c0_0,.slice A0_1 l0_1.length c0_1] 26 (0,0)) (by (with_reducible repeat first|apply Y11|apply Y13|apply Y12);exact BK329.out)):gb340≠gb329));clear HO334;clear HO337;clear BK329;clear HB;have HO334:=n0_;have HO337:=n1_;have BK329:=n2_;have HB:=n3_;have BK340:=n4_;have GW340:=n5_;have GE340:=n6_;have NB329_340:=n7_;have NB340_329:=n8_;clear n0_ n1_ n2_ n3_ n4_ n5_ n6_ n7_ n8_;clear hb hbox hg;obtain ⟨Ao17,co17,eo17⟩:=Kd.R_slice HO334.out;subst eo17;have hnb18:=NB340_329.out;have hnc18:=NB329_340.out;have ⟨hcz19_0,hcz19_1,hfz19_0,hfz19_1⟩:=sq_box2 BK340.out;obtain ⟨Ao20,co20,eo20⟩:=Kd.R_slice HO337.out;subst eo20))
   repeat (go_quiet (fail);try go_wp2)
   (try simp only [Act.put,Y14,Y15,Y16])
   go_cut [67] (fun v67 wc=>∃ (kq:Nat) (x67_12:Bool),v67 = .bool x67_12∧Aside0 (trufflelaw08_TableMay.j1 kq x67_12 l0_0 l0_1 t332 t335=some true)∧Aside0 (kq≤kj3)∧Aside0 (Kd.R k57 57 wc w.heap.size (fun _=>True) (.slice Ao17 t332.length co17) t332)∧Aside0 (Kd.R k119 119 wc w.heap.size (fun _=>True) (.slice Ao20 t335.length co20) t335)∧Aside0 (wc.heap[gb329]?=some (.cells #[(.slice A0_0 l0_0.length c0_0),(.slice A0_1 l0_1.length c0_1)] 26 (0,0)))∧Aside0 (wc.heap[gb340]?=some (.cells #[(.slice Ao17 t332.length co17),(.slice Ao20 t335.length co20)] 46 (0,0)))∧Aside0 (Below w.heap.size w wc))
   case first =>
    have H:=HC13.out
    clear HC13
    replace H:=Y17.mp H
    obtain ⟨t341,A210,H⟩:=H
    try dsimp only at H
    have A21:=Y0 A210
    clear A210
    by_cases c22:t341=true
    rotate_left
    ·replace c22:=Bool.eq_false_iff.mpr c22
     subst c22
     rw [if_neg (show ¬ (false=true) by decide)] at H
     have H':=Y0 H
     clear H
     have hnb38:=NB340_329.out
     have hnc38:=NB329_340.out
     have ⟨hcz39_0,hcz39_1,hfz39_0,hfz39_1⟩:=sq_box2 BK340.out
     go_wp2_with (first|(go_at_call 19;(with_reducible refine (table_May.calls _ _ t332 _ _ t335 false _ ?side1 ?side2 ?side3 ?side4 A21.out).mono ?_);(case side1=>refine (Kd.R_reads' (e:=57) (base:=w.heap.size) (ok:=fun k_=>True) (n:=t332.length) (c:=co17) ?_).2.2;exact (by (with_reducible repeat (first|apply Y5|apply Y6|apply Y7));exact (Kd.R_mono (Kd.R_far (p:=⟨gb340,1,none⟩) (Kd.R_far (p:=⟨gb340,0,none⟩) (Kd.R_types HO334.out BK340.out (by decide)) (fun _ hk=>hk.2) (.slice Ao17 t332.length co17)) (fun _ hk=>hk.2) (.slice Ao20 t335.length co20)) (fun _ h_=>h_.1))));(case side2=>exact (Kd.R_reads' HO334.out).2.1);(case side3=>refine (Kd.R_reads' (e:=119) (base:=w.heap.size) (ok:=fun k_=>True) (n:=t335.length) (c:=co20) ?_).2.2;exact (by (with_reducible repeat (first|apply Y5|apply Y6|apply Y7));exact (Kd.R_mono (Kd.R_far (p:=⟨gb340,1,none⟩) (Kd.R_far (p:=⟨gb340,0,none⟩) (Kd.R_types HO337.out BK340.out (by decide)) (fun _ hk=>hk.2) (.slice Ao17 t332.length co17)) (fun _ hk=>hk.2) (.slice Ao20 t335.length co20)) (fun _ h_=>h_.1))));(case side4=>exact (Kd.R_reads' HO337.out).2.1);rintro e w40 ⟨rfl,hb⟩;have n0_:=Y0 (Kd.R_below (by (with_reducible repeat (first|apply Y5|apply Y6|apply Y7));exact (Kd.R_mono (Kd.R_far (p:=⟨gb340,1,none⟩) (Kd.R_far (p:=⟨gb340,0,none⟩) (Kd.R_types HO334.out BK340.out (by decide)) (fun _ hk=>hk.2) (.slice Ao17 t332.length co17)) (fun _ hk=>hk.2) (.slice Ao20 t335.length co20)) (fun _ h_=>h_.1))) hb);have n1_:=Y0 (Kd.R_below (by (with_reducible repeat (first|apply Y5|apply Y6|apply Y7));exact (Kd.R_mono (Kd.R_far (p:=⟨gb340,1,none⟩) (Kd.R_far (p:=⟨gb340,0,none⟩) (Kd.R_types HO337.out BK340.out (by decide)) (fun _ hk=>hk.2) (.slice Ao17 t332.length co17)) (fun _ hk=>hk.2) (.slice Ao20 t335.length co20)) (fun _ h_=>h_.1))) hb);have n2_:=Y0 (blk_below (g:=gb329) (o:=.cells #[.slice A0_0 l0_0.length c0_0,.slice A0_1 l0_1.length c0_1] 26 (0,0)) (by (with_reducible repeat first|apply Y11|apply Y13|apply Y12);refine blk_far ?_ NB329_340.out _;(with_reducible repeat first|apply Y11|apply Y13|apply Y12);refine blk_far ?_ NB329_340.out _;(with_reducible repeat first|apply Y11|apply Y13|apply Y12);exact BK329.out) hb);have n3_:=Y0 (blk_below (g:=gb340) (o:=.cells #[.slice Ao17 t332.length co17,.slice Ao20 t335.length co20] 46 (0,0)) (by (with_reducible repeat first|apply Y11|apply Y13|apply Y12);refine blk_put (cs:=#[.slice Ao17 t332.length co17,.slice none 0 0]) ?_ 1 _ rfl;(with_reducible repeat first|apply Y11|apply Y13|apply Y12);refine blk_put (cs:=#[.slice none 0 0,.slice none 0 0]) ?_ 0 _ rfl;(with_reducible repeat first|apply Y11|apply Y13|apply Y12);exact BK340.out) hb);have n4_:=Y0 (below_step (by repeat (with_reducible first|exact HB.out|apply Y3|apply Y1|apply Y2|refine Y4 ?_ GE329.out|refine Y4 ?_ GE340.out)) hb);clear HO334;clear HO337;clear BK329;clear BK340;clear HB;have HO334:=n0_;have HO337:=n1_;have BK329:=n2_;have BK340:=n3_;have HB:=n4_;clear n0_ n1_ n2_ n3_ n4_;(try clear hb);(try clear hb2);(try clear hk);(try clear hi)))
     repeat (go_quiet (fail);try go_wp2)
     go_meet
     case rel=>exact ⟨_,(true),(by first|rfl|(simp;done)|(simp [*];done)),H',⟨by have:=HJ3.out;first|omega|exact Nat.le_refl _⟩,⟨by (with_reducible repeat (first|apply Y5|apply Y6|apply Y7));exact HO334.out⟩,⟨by (with_reducible repeat (first|apply Y5|apply Y6|apply Y7));exact HO337.out⟩,⟨by (with_reducible repeat first|apply Y11|apply Y13|apply Y12);exact BK329.out⟩,⟨by (with_reducible repeat first|apply Y11|apply Y13|apply Y12);exact BK340.out⟩,⟨by repeat (with_reducible first|exact HB.out|apply Y3|apply Y1|apply Y2|refine Y4 ?_ GE329.out|refine Y4 ?_ GE340.out)⟩⟩
    subst c22
    rw [if_pos rfl] at H
    by_cases c23:t338=0
    rotate_left
    ·rw [if_neg c23] at H
     have c23b0:(t338 == 0)=false:=beq_eq_false_iff_ne.mpr c23
     have c23b1:(t338 != 0)=true:=bne_iff_ne.mpr c23
     (first|rw [c23b0]|(simp only [];rw [c23b0])|skip)
     have H':=Y0 H
     clear H
     have hnb35:=NB340_329.out
     have hnc35:=NB329_340.out
     have ⟨hcz36_0,hcz36_1,hfz36_0,hfz36_1⟩:=sq_box2 BK340.out
     go_wp2_with (first|(go_at_call 19;(with_reducible refine (table_May.calls _ _ t332 _ _ t335 true _ ?side1 ?side2 ?side3 ?side4 A21.out).mono ?_);(case side1=>refine (Kd.R_reads' (e:=57) (base:=w.heap.size) (ok:=fun k_=>True) (n:=t332.length) (c:=co17) ?_).2.2;exact (by (with_reducible repeat (first|apply Y5|apply Y6|apply Y7));exact (Kd.R_mono (Kd.R_far (p:=⟨gb340,1,none⟩) (Kd.R_far (p:=⟨gb340,0,none⟩) (Kd.R_types HO334.out BK340.out (by decide)) (fun _ hk=>hk.2) (.slice Ao17 t332.length co17)) (fun _ hk=>hk.2) (.slice Ao20 t335.length co20)) (fun _ h_=>h_.1))));(case side2=>exact (Kd.R_reads' HO334.out).2.1);(case side3=>refine (Kd.R_reads' (e:=119) (base:=w.heap.size) (ok:=fun k_=>True) (n:=t335.length) (c:=co20) ?_).2.2;exact (by (with_reducible repeat (first|apply Y5|apply Y6|apply Y7));exact (Kd.R_mono (Kd.R_far (p:=⟨gb340,1,none⟩) (Kd.R_far (p:=⟨gb340,0,none⟩) (Kd.R_types HO337.out BK340.out (by decide)) (fun _ hk=>hk.2) (.slice Ao17 t332.length co17)) (fun _ hk=>hk.2) (.slice Ao20 t335.length co20)) (fun _ h_=>h_.1))));(case side4=>exact (Kd.R_reads' HO337.out).2.1);rintro e w37 ⟨rfl,hb⟩;have n0_:=Y0 (Kd.R_below (by (with_reducible repeat (first|apply Y5|apply Y6|apply Y7));exact (Kd.R_mono (Kd.R_far (p:=⟨gb340,1,none⟩) (Kd.R_far (p:=⟨gb340,0,none⟩) (Kd.R_types HO334.out BK340.out (by decide)) (fun _ hk=>hk.2) (.slice Ao17 t332.length co17)) (fun _ hk=>hk.2) (.slice Ao20 t335.length co20)) (fun _ h_=>h_.1))) hb);have n1_:=Y0 (Kd.R_below (by (with_reducible repeat (first|apply Y5|apply Y6|apply Y7));exact (Kd.R_mono (Kd.R_far (p:=⟨gb340,1,none⟩) (Kd.R_far (p:=⟨gb340,0,none⟩) (Kd.R_types HO337.out BK340.out (by decide)) (fun _ hk=>hk.2) (.slice Ao17 t332.length co17)) (fun _ hk=>hk.2) (.slice Ao20 t335.length co20)) (fun _ h_=>h_.1))) hb);have n2_:=Y0 (blk_below (g:=gb329) (o:=.cells #[.slice A0_0 l0_0.length c0_0,.slice A0_1 l0_1.length c0_1] 26 (0,0)) (by (with_reducible repeat first|apply Y11|apply Y13|apply Y12);refine blk_far ?_ NB329_340.out _;(with_reducible repeat first|apply Y11|apply Y13|apply Y12);refine blk_far ?_ NB329_340.out _;(with_reducible repeat first|apply Y11|apply Y13|apply Y12);exact BK329.out) hb);have n3_:=Y0 (blk_below (g:=gb340) (o:=.cells #[.slice Ao17 t332.length co17,.slice Ao20 t335.length co20] 46 (0,0)) (by (with_reducible repeat first|apply Y11|apply Y13|apply Y12);refine blk_put (cs:=#[.slice Ao17 t332.length co17,.slice none 0 0]) ?_ 1 _ rfl;(with_reducible repeat first|apply Y11|apply Y13|apply Y12);refine blk_put (cs:=#[.slice none 0 0,.slice none 0 0]) ?_ 0 _ rfl;(with_reducible repeat first|apply Y11|apply Y13|apply Y12);exact BK340.out) hb);have n4_:=Y0 (below_step (by repeat (with_reducible first|exact HB.out|apply Y3|apply Y1|apply Y2|refine Y4 ?_ GE329.out|refine Y4 ?_ GE340.out)) hb);clear HO334;clear HO337;clear BK329;clear BK340;clear HB;have HO334:=n0_;have HO337:=n1_;have BK329:=n2_;have BK340:=n3_;have HB:=n4_;clear n0_ n1_ n2_ n3_ n4_;(try clear hb);(try clear hb2);(try clear hk);(try clear hi)))
     repeat (go_quiet (fail);try go_wp2)
     go_meet
     case rel=>exact ⟨_,(true),(by first|rfl|(simp;done)|(simp [*];done)),H',⟨by have:=HJ3.out;first|omega|exact Nat.le_refl _⟩,⟨by (with_reducible repeat (first|apply Y5|apply Y6|apply Y7));exact HO334.out⟩,⟨by (with_reducible repeat (first|apply Y5|apply Y6|apply Y7));exact HO337.out⟩,⟨by (with_reducible repeat first|apply Y11|apply Y13|apply Y12);exact BK329.out⟩,⟨by (with_reducible repeat first|apply Y11|apply Y13|apply Y12);exact BK340.out⟩,⟨by repeat (with_reducible first|exact HB.out|apply Y3|apply Y1|apply Y2|refine Y4 ?_ GE329.out|refine Y4 ?_ GE340.out)⟩⟩
    rw [if_pos c23] at H
    have c23b0:(t338 == 0)=true:=beq_iff_eq.mpr c23
    have c23b1:(t338 != 0)=false:=bne_eq_false_iff_eq.mpr c23
    clear c23
    (first|rw [c23b0]|(simp only [];rw [c23b0])|skip)
    by_cases c24:(t332.length:Int)=(l0_0.length:Int)
    rotate_left
    ·rw [if_neg c24] at H
     have c24b0:((t332.length:Int) == (l0_0.length:Int))=false:=beq_eq_false_iff_ne.mpr c24
     have c24b1:((t332.length:Int) != (l0_0.length:Int))=true:=bne_iff_ne.mpr c24
     have c24b2:(t332.length == l0_0.length)=false:=by first|simpa using c24|(simp at c24 ⊢;omega)
     have H':=Y0 H
     clear H
     have hnb30:=NB340_329.out
     have hnc30:=NB329_340.out
     have ⟨hcz31_0,hcz31_1,hfz31_0,hfz31_1⟩:=sq_box2 BK340.out
     go_wp2_with (first|(go_at_call 19;(with_reducible refine (table_May.calls _ _ t332 _ _ t335 true _ ?side1 ?side2 ?side3 ?side4 A21.out).mono ?_);(case side1=>refine (Kd.R_reads' (e:=57) (base:=w.heap.size) (ok:=fun k_=>True) (n:=t332.length) (c:=co17) ?_).2.2;exact (by (with_reducible repeat (first|apply Y5|apply Y6|apply Y7));exact (Kd.R_mono (Kd.R_far (p:=⟨gb340,1,none⟩) (Kd.R_far (p:=⟨gb340,0,none⟩) (Kd.R_types HO334.out BK340.out (by decide)) (fun _ hk=>hk.2) (.slice Ao17 t332.length co17)) (fun _ hk=>hk.2) (.slice Ao20 t335.length co20)) (fun _ h_=>h_.1))));(case side2=>exact (Kd.R_reads' HO334.out).2.1);(case side3=>refine (Kd.R_reads' (e:=119) (base:=w.heap.size) (ok:=fun k_=>True) (n:=t335.length) (c:=co20) ?_).2.2;exact (by (with_reducible repeat (first|apply Y5|apply Y6|apply Y7));exact (Kd.R_mono (Kd.R_far (p:=⟨gb340,1,none⟩) (Kd.R_far (p:=⟨gb340,0,none⟩) (Kd.R_types HO337.out BK340.out (by decide)) (fun _ hk=>hk.2) (.slice Ao17 t332.length co17)) (fun _ hk=>hk.2) (.slice Ao20 t335.length co20)) (fun _ h_=>h_.1))));(case side4=>exact (Kd.R_reads' HO337.out).2.1);rintro e w32 ⟨rfl,hb⟩;have n0_:=Y0 (Kd.R_below (by (with_reducible repeat (first|apply Y5|apply Y6|apply Y7));exact (Kd.R_mono (Kd.R_far (p:=⟨gb340,1,none⟩) (Kd.R_far (p:=⟨gb340,0,none⟩) (Kd.R_types HO334.out BK340.out (by decide)) (fun _ hk=>hk.2) (.slice Ao17 t332.length co17)) (fun _ hk=>hk.2) (.slice Ao20 t335.length co20)) (fun _ h_=>h_.1))) hb);have n1_:=Y0 (Kd.R_below (by (with_reducible repeat (first|apply Y5|apply Y6|apply Y7));exact (Kd.R_mono (Kd.R_far (p:=⟨gb340,1,none⟩) (Kd.R_far (p:=⟨gb340,0,none⟩) (Kd.R_types HO337.out BK340.out (by decide)) (fun _ hk=>hk.2) (.slice Ao17 t332.length co17)) (fun _ hk=>hk.2) (.slice Ao20 t335.length co20)) (fun _ h_=>h_.1))) hb);have n2_:=Y0 (blk_below (g:=gb329) (o:=.cells #[.slice A0_0 l0_0.length c0_0,.slice A0_1 l0_1.length c0_1] 26 (0,0)) (by (with_reducible repeat first|apply Y11|apply Y13|apply Y12);refine blk_far ?_ NB329_340.out _;(with_reducible repeat first|apply Y11|apply Y13|apply Y12);refine blk_far ?_ NB329_340.out _;(with_reducible repeat first|apply Y11|apply Y13|apply Y12);exact BK329.out) hb);have n3_:=Y0 (blk_below (g:=gb340) (o:=.cells #[.slice Ao17 t332.length co17,.slice Ao20 t335.length co20] 46 (0,0)) (by (with_reducible repeat first|apply Y11|apply Y13|apply Y12);refine blk_put (cs:=#[.slice Ao17 t332.length co17,.slice none 0 0]) ?_ 1 _ rfl;(with_reducible repeat first|apply Y11|apply Y13|apply Y12);refine blk_put (cs:=#[.slice none 0 0,.slice none 0 0]) ?_ 0 _ rfl;(with_reducible repeat first|apply Y11|apply Y13|apply Y12);exact BK340.out) hb);have n4_:=Y0 (below_step (by repeat (with_reducible first|exact HB.out|apply Y3|apply Y1|apply Y2|refine Y4 ?_ GE329.out|refine Y4 ?_ GE340.out)) hb);clear HO334;clear HO337;clear BK329;clear BK340;clear HB;have HO334:=n0_;have HO337:=n1_;have BK329:=n2_;have BK340:=n3_;have HB:=n4_;clear n0_ n1_ n2_ n3_ n4_;(try clear hb);(try clear hb2);(try clear hk);(try clear hi);have ⟨hcz33_0,hcz33_1,hfz33_0,hfz33_1⟩:=sq_box2 BK340.out;have ⟨hcz34_0,hcz34_1,hfz34_0,hfz34_1⟩:=sq_box2 BK329.out))
     repeat (go_quiet (fail);try go_wp2)
     go_meet
     case rel=>exact ⟨_,(true),(by first|rfl|(simp;done)|(simp [*];done)),H',⟨by have:=HJ3.out;first|omega|exact Nat.le_refl _⟩,⟨by (with_reducible repeat (first|apply Y5|apply Y6|apply Y7));exact HO334.out⟩,⟨by (with_reducible repeat (first|apply Y5|apply Y6|apply Y7));exact HO337.out⟩,⟨by (with_reducible repeat first|apply Y11|apply Y13|apply Y12);exact BK329.out⟩,⟨by (with_reducible repeat first|apply Y11|apply Y13|apply Y12);exact BK340.out⟩,⟨by repeat (with_reducible first|exact HB.out|apply Y3|apply Y1|apply Y2|refine Y4 ?_ GE329.out|refine Y4 ?_ GE340.out)⟩⟩
    rw [if_pos c24] at H
    have c24b0:((t332.length:Int) == (l0_0.length:Int))=true:=beq_iff_eq.mpr c24
    have c24b1:((t332.length:Int) != (l0_0.length:Int))=false:=bne_eq_false_iff_eq.mpr c24
    have c24b2:(t332.length == l0_0.length)=true:=by first|simpa using c24|(simp at c24 ⊢;omega)
    clear c24
    have H':=Y0 H
    clear H
    have hnb25:=NB340_329.out
    have hnc25:=NB329_340.out
    have ⟨hcz26_0,hcz26_1,hfz26_0,hfz26_1⟩:=sq_box2 BK340.out
    go_wp2_with (first|(go_at_call 19;(with_reducible refine (table_May.calls _ _ t332 _ _ t335 true _ ?side1 ?side2 ?side3 ?side4 A21.out).mono ?_);(case side1=>refine (Kd.R_reads' (e:=57) (base:=w.heap.size) (ok:=fun k_=>True) (n:=t332.length) (c:=co17) ?_).2.2;exact (by (with_reducible repeat (first|apply Y5|apply Y6|apply Y7));exact (Kd.R_mono (Kd.R_far (p:=⟨gb340,1,none⟩) (Kd.R_far (p:=⟨gb340,0,none⟩) (Kd.R_types HO334.out BK340.out (by decide)) (fun _ hk=>hk.2) (.slice Ao17 t332.length co17)) (fun _ hk=>hk.2) (.slice Ao20 t335.length co20)) (fun _ h_=>h_.1))));(case side2=>exact (Kd.R_reads' HO334.out).2.1);(case side3=>refine (Kd.R_reads' (e:=119) (base:=w.heap.size) (ok:=fun k_=>True) (n:=t335.length) (c:=co20) ?_).2.2;exact (by (with_reducible repeat (first|apply Y5|apply Y6|apply Y7));exact (Kd.R_mono (Kd.R_far (p:=⟨gb340,1,none⟩) (Kd.R_far (p:=⟨gb340,0,none⟩) (Kd.R_types HO337.out BK340.out (by decide)) (fun _ hk=>hk.2) (.slice Ao17 t332.length co17)) (fun _ hk=>hk.2) (.slice Ao20 t335.length co20)) (fun _ h_=>h_.1))));(case side4=>exact (Kd.R_reads' HO337.out).2.1);rintro e w27 ⟨rfl,hb⟩;have n0_:=Y0 (Kd.R_below (by (with_reducible repeat (first|apply Y5|apply Y6|apply Y7));exact (Kd.R_mono (Kd.R_far (p:=⟨gb340,1,none⟩) (Kd.R_far (p:=⟨gb340,0,none⟩) (Kd.R_types HO334.out BK340.out (by decide)) (fun _ hk=>hk.2) (.slice Ao17 t332.length co17)) (fun _ hk=>hk.2) (.slice Ao20 t335.length co20)) (fun _ h_=>h_.1))) hb);have n1_:=Y0 (Kd.R_below (by (with_reducible repeat (first|apply Y5|apply Y6|apply Y7));exact (Kd.R_mono (Kd.R_far (p:=⟨gb340,1,none⟩) (Kd.R_far (p:=⟨gb340,0,none⟩) (Kd.R_types HO337.out BK340.out (by decide)) (fun _ hk=>hk.2) (.slice Ao17 t332.length co17)) (fun _ hk=>hk.2) (.slice Ao20 t335.length co20)) (fun _ h_=>h_.1))) hb);have n2_:=Y0 (blk_below (g:=gb329) (o:=.cells #[.slice A0_0 l0_0.length c0_0,.slice A0_1 l0_1.length c0_1] 26 (0,0)) (by (with_reducible repeat first|apply Y11|apply Y13|apply Y12);refine blk_far ?_ NB329_340.out _;(with_reducible repeat first|apply Y11|apply Y13|apply Y12);refine blk_far ?_ NB329_340.out _;(with_reducible repeat first|apply Y11|apply Y13|apply Y12);exact BK329.out) hb);have n3_:=Y0 (blk_below (g:=gb340) (o:=.cells #[.slice Ao17 t332.length co17,.slice Ao20 t335.length co20] 46 (0,0)) (by (with_reducible repeat first|apply Y11|apply Y13|apply Y12);refine blk_put (cs:=#[.slice Ao17 t332.length co17,.slice none 0 0]) ?_ 1 _ rfl;(with_reducible repeat first|apply Y11|apply Y13|apply Y12);refine blk_put (cs:=#[.slice none 0 0,.slice none 0 0]) ?_ 0 _ rfl;(with_reducible repeat first|apply Y11|apply Y13|apply Y12);exact BK340.out) hb);have n4_:=Y0 (below_step (by repeat (with_reducible first|exact HB.out|apply Y3|apply Y1|apply Y2|refine Y4 ?_ GE329.out|refine Y4 ?_ GE340.out)) hb);clear HO334;clear HO337;clear BK329;clear BK340;clear HB;have HO334:=n0_;have HO337:=n1_;have BK329:=n2_;have BK340:=n3_;have HB:=n4_;clear n0_ n1_ n2_ n3_ n4_;(try clear hb);(try clear hb2);(try clear hk);(try clear hi);have ⟨hcz28_0,hcz28_1,hfz28_0,hfz28_1⟩:=sq_box2 BK340.out;have ⟨hcz29_0,hcz29_1,hfz29_0,hfz29_1⟩:=sq_box2 BK329.out))
    repeat (go_quiet (fail);try go_wp2)
    go_meet
    case rel=>exact ⟨_,(((t335.length:Int) != (l0_1.length:Int))),(by first|rfl|(simp;done)|(simp [*];done)),H',⟨by have:=HJ3.out;first|omega|exact Nat.le_refl _⟩,⟨by (with_reducible repeat (first|apply Y5|apply Y6|apply Y7));exact HO334.out⟩,⟨by (with_reducible repeat (first|apply Y5|apply Y6|apply Y7));exact HO337.out⟩,⟨by (with_reducible repeat first|apply Y11|apply Y13|apply Y12);exact BK329.out⟩,⟨by (with_reducible repeat first|apply Y11|apply Y13|apply Y12);exact BK340.out⟩,⟨by repeat (with_reducible first|exact HB.out|apply Y3|apply Y1|apply Y2|refine Y4 ?_ GE329.out|refine Y4 ?_ GE340.out)⟩⟩
   case rest =>
    clear HC13
    obtain ⟨kq,x67_12,rfl,HA,HJ12,HO_341000,HO_341001,BK329,BK340,HB⟩:=hcut
    cases kq with
    | zero=>exact absurd HA.out (by simp [trufflelaw08_TableMay.j1])
    | succ kj12 =>
     have H:=HA.out
     clear HA
     simp only [trufflelaw08_TableMay.j1] at H
     by_cases c41:x67_12=true
     ·subst c41
      rw [if_pos rfl] at H
      exact absurd (Option.some.inj H) Bool.false_ne_true
     replace c41:=Bool.eq_false_iff.mpr c41
     subst c41
     rw [if_neg (show ¬ (false=true) by decide)] at H
     have H':=Y0 H
     clear H
     go_wp2
     repeat (go_quiet (fail);try go_wp2)
     go_loopg [8] kj12 (fun kq v8 w'=>∃ (x8_3:Int),v8 = .int .i64 x8_3∧Aside0 (trufflelaw08_TableMay.l0 kq x8_3 l0_0 l0_1 t332 t335=some true)∧Aside0 (kq≤kj12)∧Aside0 (Kd.R k57 57 w' w.heap.size (fun _=>True) (.slice Ao17 t332.length co17) t332)∧Aside0 (Kd.R k119 119 w' w.heap.size (fun _=>True) (.slice Ao20 t335.length co20) t335)∧Aside0 (w'.heap[gb329]?=some (.cells #[(.slice A0_0 l0_0.length c0_0),(.slice A0_1 l0_1.length c0_1)] 26 (0,0)))∧Aside0 (w'.heap[gb340]?=some (.cells #[(.slice Ao17 t332.length co17),(.slice Ao20 t335.length co20)] 46 (0,0)))∧Aside0 (Below w.heap.size w w'))
     case atStart=>exact ⟨(0),(by first|rfl|(simp;done)|(simp [*];done)),H',⟨Nat.le_refl _⟩,⟨by (with_reducible repeat (first|apply Y5|apply Y6|apply Y7));exact HO_341000.out⟩,⟨by (with_reducible repeat (first|apply Y5|apply Y6|apply Y7));exact HO_341001.out⟩,⟨by (with_reducible repeat first|apply Y11|apply Y13|apply Y12);exact BK329.out⟩,⟨by (with_reducible repeat first|apply Y11|apply Y13|apply Y12);exact BK340.out⟩,⟨by repeat (with_reducible first|exact HB.out|apply Y3|apply Y1|apply Y2|refine Y4 ?_ GE329.out|refine Y4 ?_ GE340.out)⟩⟩
     case round =>
      clear H'
      obtain ⟨x8_3,rfl,HA,HK3,HO_341000,HO_341001,BK329,BK340,HB⟩:=hrel
      cases gk with
      | zero=>exact absurd HA.out (by simp [trufflelaw08_TableMay.l0])
      | succ k3 =>
       have H:=HA.out
       clear HA
       simp only [trufflelaw08_TableMay.l0] at H
       by_cases c42:x8_3 < (l0_0.length:Int)
       rotate_left
       ·rw [if_neg c42] at H
        have c42b0:decide (x8_3 < (l0_0.length:Int))=false:=decide_eq_false c42
        clear c42
        clear H
        have hnb88:=NB329_340.out
        have hnc88:=NB340_329.out
        have ⟨hcz89_0,hcz89_1,hfz89_0,hfz89_1⟩:=sq_box2 BK329.out
        go_wp2
        repeat (go_quiet (fail);try go_wp2)
        go_ret
        exact ⟨by first|rfl|(simp [] <;> rfl)|(simp [*] <;> rfl),by repeat (with_reducible first|exact HB.out|apply Y3|apply Y1|apply Y2|refine Y4 ?_ GE329.out|refine Y4 ?_ GE340.out)⟩
       rw [if_pos c42] at H
       have c42b0:decide (x8_3 < (l0_0.length:Int))=true:=decide_eq_true c42
       clear c42
       have H':=Y0 H
       clear H
       have hnb43:=NB329_340.out
       have hnc43:=NB340_329.out
       have ⟨hcz44_0,hcz44_1,hfz44_0,hfz44_1⟩:=sq_box2 BK329.out
       go_wp2
       repeat (go_quiet (fail);try go_wp2)
       go_loopg [9] k3 (fun kq v9 w'=>∃ (x9_4:Int),v9 = .int .i64 x9_4∧Aside0 (trufflelaw08_TableMay.l1 kq x8_3 x9_4 l0_0 l0_1 t332 t335=some true)∧Aside0 (kq≤k3)∧Aside0 (Kd.R k57 57 w' w.heap.size (fun _=>True) (.slice Ao17 t332.length co17) t332)∧Aside0 (Kd.R k119 119 w' w.heap.size (fun _=>True) (.slice Ao20 t335.length co20) t335)∧Aside0 (w'.heap[gb329]?=some (.cells #[(.slice A0_0 l0_0.length c0_0),(.slice A0_1 l0_1.length c0_1)] 26 (0,0)))∧Aside0 (w'.heap[gb340]?=some (.cells #[(.slice Ao17 t332.length co17),(.slice Ao20 t335.length co20)] 46 (0,0)))∧Aside0 (Below w.heap.size w w'))
       case atStart=>exact ⟨(0),(by first|rfl|(simp;done)|(simp [*];done)),H',⟨Nat.le_refl _⟩,⟨by (with_reducible repeat (first|apply Y5|apply Y6|apply Y7));exact HO_341000.out⟩,⟨by (with_reducible repeat (first|apply Y5|apply Y6|apply Y7));exact HO_341001.out⟩,⟨by (with_reducible repeat first|apply Y11|apply Y13|apply Y12);exact BK329.out⟩,⟨by (with_reducible repeat first|apply Y11|apply Y13|apply Y12);exact BK340.out⟩,⟨by repeat (with_reducible first|exact HB.out|apply Y3|apply Y1|apply Y2|refine Y4 ?_ GE329.out|refine Y4 ?_ GE340.out)⟩⟩
       case round =>
        clear H'
        obtain ⟨x9_4,rfl,HA,HK4,HO_341000,HO_341001,BK329,BK340,HB⟩:=hrel
        cases gk with
        | zero=>exact absurd HA.out (by simp [trufflelaw08_TableMay.l1])
        | succ k4 =>
         have H:=HA.out
         clear HA
         simp only [trufflelaw08_TableMay.l1] at H
         by_cases c45:0≤x8_3
         rotate_left
         ·rw [if_neg c45] at H
          exact absurd H (by simp)
         rw [if_pos c45] at H
         have c45b0:decide (0≤x8_3)=true:=decide_eq_true c45
         clear c45
         by_cases c46:x8_3 < (l0_0.length:Int)
         rotate_left
         ·rw [if_neg c46] at H
          exact absurd H (by simp)
         rw [if_pos c46] at H
         have c46b0:decide (x8_3 < (l0_0.length:Int))=true:=decide_eq_true c46
         clear c46
         by_cases c47:x9_4 < (((rd_T34 l0_0 x8_3).f1).length:Int)
         rotate_left
         ·rw [if_neg c47] at H
          have c47b0:decide (x9_4 < (((rd_T34 l0_0 x8_3).f1).length:Int))=false:=decide_eq_false c47
          clear c47
          by_cases c82:x8_3 < (t332.length:Int)
          rotate_left
          ·rw [if_neg c82] at H
           exact absurd H (by simp)
          rw [if_pos c82] at H
          have c82b0:decide (x8_3 < (t332.length:Int))=true:=decide_eq_true c82
          clear c82
          by_cases c83:(((rd_T57 t332 x8_3).f1).length:Int)=(((rd_T34 l0_0 x8_3).f1).length:Int)
          rotate_left
          ·rw [if_neg c83] at H
           have c83b0:((((rd_T57 t332 x8_3).f1).length:Int) == (((rd_T34 l0_0 x8_3).f1).length:Int))=false:=beq_eq_false_iff_ne.mpr c83
           have c83b1:((((rd_T57 t332 x8_3).f1).length:Int) != (((rd_T34 l0_0 x8_3).f1).length:Int))=true:=bne_iff_ne.mpr c83
           have c83b2:(((rd_T57 t332 x8_3).f1).length == ((rd_T34 l0_0 x8_3).f1).length)=false:=by first|simpa using c83|(simp at c83 ⊢;omega)
           exact absurd (Option.some.inj H) Bool.false_ne_true
          rw [if_pos c83] at H
          have c83b0:((((rd_T57 t332 x8_3).f1).length:Int) == (((rd_T34 l0_0 x8_3).f1).length:Int))=true:=beq_iff_eq.mpr c83
          have c83b1:((((rd_T57 t332 x8_3).f1).length:Int) != (((rd_T34 l0_0 x8_3).f1).length:Int))=false:=bne_eq_false_iff_eq.mpr c83
          have c83b2:(((rd_T57 t332 x8_3).f1).length == ((rd_T34 l0_0 x8_3).f1).length)=true:=by first|simpa using c83|(simp at c83 ⊢;omega)
          clear c83
          by_cases c84:((rd_T57 t332 x8_3).f0).toList=((rd_T34 l0_0 x8_3).f0).toList
          rotate_left
          ·rw [if_neg c84] at H
           have c84b0:(((rd_T57 t332 x8_3).f0).toList == ((rd_T34 l0_0 x8_3).f0).toList)=false:=beq_eq_false_iff_ne.mpr c84
           have c84b1:(((rd_T57 t332 x8_3).f0).toList != ((rd_T34 l0_0 x8_3).f0).toList)=true:=bne_iff_ne.mpr c84
           exact absurd (Option.some.inj H) Bool.false_ne_true
          rw [if_pos c84] at H
          have c84b0:(((rd_T57 t332 x8_3).f0).toList == ((rd_T34 l0_0 x8_3).f0).toList)=true:=beq_iff_eq.mpr c84
          have c84b1:(((rd_T57 t332 x8_3).f0).toList != ((rd_T34 l0_0 x8_3).f0).toList)=false:=bne_eq_false_iff_eq.mpr c84
          clear c84
          have H':=Y0 H
          clear H
          have hnb85:=NB329_340.out
          have hnc85:=NB340_329.out
          have ⟨hcz86_0,hcz86_1,hfz86_0,hfz86_1⟩:=sq_box2 BK329.out
          have p342:0≤(x8_3:Int):=of_decide_eq_true (by first|(with_reducible assumption)|assumption)
          have q342:x8_3 < (l0_0.length:Int):=of_decide_eq_true (by first|(with_reducible assumption)|assumption)
          obtain ⟨ad342,A342_1,c342_1,A342_2,c342_2,A342_3,c342_3,e342,hx342_0,hx342_1,hx342_2,hx342_3,hx342_4,hl342_1,hi342_1,hl342_2,hi342_2,hl342_3,hi342_3⟩:=at_T34 HR0_0.out x8_3 p342 q342
          cases e342
          replace hx342_0:=(HB.out.cell (World.block_lt_of_cell? w _ hx342_0)).trans hx342_0
          replace hx342_1:=(HB.out.cell (World.block_lt_of_cell? w _ hx342_1)).trans hx342_1
          replace hx342_2:=(HB.out.cell (World.block_lt_of_cell? w _ hx342_2)).trans hx342_2
          replace hx342_3:=(HB.out.cell (World.block_lt_of_cell? w _ hx342_3)).trans hx342_3
          replace hx342_4:=(HB.out.cell (World.block_lt_of_cell? w _ hx342_4)).trans hx342_4
          have HR342_1:=Y0 hi342_1
          have HC342_1:=Y0 hl342_1
          clear hi342_1 hl342_1
          have HR342_2:=Y0 hi342_2
          have HC342_2:=Y0 hl342_2
          clear hi342_2 hl342_2
          have HR342_3:=Y0 hi342_3
          have HC342_3:=Y0 hl342_3
          clear hi342_3 hl342_3
          replace p342:=eq_true p342
          replace q342:=eq_true q342
          have ⟨hcz87_0,hcz87_1,hfz87_0,hfz87_1⟩:=sq_box2 BK340.out
          have p343:0≤(x8_3:Int):=of_decide_eq_true (by first|(with_reducible assumption)|assumption)
          have q343:x8_3 < (t332.length:Int):=of_decide_eq_true (by first|(with_reducible assumption)|assumption)
          obtain ⟨ad343,A343_1,c343_1,e343,hx343_0,hx343_1,hl343_1,hi343_1⟩:=at_T57 (Kd.R_reads' HO_341000.out).2.2 x8_3 p343 q343
          cases e343
          obtain ⟨ce343,hce343,hMe343,hcc343⟩:=Kd.R_get HO_341000.out z57 x8_3 p343 (by first|exact q343|exact of_decide_eq_true (by first|(with_reducible assumption)|assumption)|(have e_:=(Kd.R_reads' HO_341000.out).1;omega))
          obtain ⟨ve343_1,rfl,ge343_1⟩:=k57_openM hMe343
          have hv343_1:=hcc343 1 _ rfl
          rw [add_field _ _ 1 (by omega)] at hv343_1
          replace hv343_1:=Option.some.inj (hv343_1.symm.trans hx343_1)
          rw [hv343_1] at ge343_1
          have HL343_1:=Y0 (show Kd.R k51 51 _ _ _ _ ((rd_T57 t332 x8_3).f1) from ge343_1)
          clear hv343_1 ge343_1
          clear hcc343 hce343
          have HR343_1:=Y0 hi343_1
          have HC343_1:=Y0 hl343_1
          clear hi343_1 hl343_1
          replace p343:=eq_true p343
          replace q343:=eq_true q343
          have p344:0≤(x8_3:Int):=of_decide_eq_true (by first|(with_reducible assumption)|assumption)
          have q344:x8_3 < (l0_0.length:Int):=of_decide_eq_true (by first|(with_reducible assumption)|assumption)
          obtain ⟨ad344,A344_1,c344_1,A344_2,c344_2,A344_3,c344_3,e344,hx344_0,hx344_1,hx344_2,hx344_3,hx344_4,hl344_1,hi344_1,hl344_2,hi344_2,hl344_3,hi344_3⟩:=at_T34 HR0_0.out x8_3 p344 q344
          obtain rfl:ad342=ad344:=(by injection e344)
          replace hx344_0:=(HB.out.cell (World.block_lt_of_cell? w _ hx344_0)).trans hx344_0
          replace hx344_1:=(HB.out.cell (World.block_lt_of_cell? w _ hx344_1)).trans hx344_1
          replace hx344_2:=(HB.out.cell (World.block_lt_of_cell? w _ hx344_2)).trans hx344_2
          replace hx344_3:=(HB.out.cell (World.block_lt_of_cell? w _ hx344_3)).trans hx344_3
          replace hx344_4:=(HB.out.cell (World.block_lt_of_cell? w _ hx344_4)).trans hx344_4
          have HR344_1:=Y0 hi344_1
          have HC344_1:=Y0 hl344_1
          clear hi344_1 hl344_1
          have HR344_2:=Y0 hi344_2
          have HC344_2:=Y0 hl344_2
          clear hi344_2 hl344_2
          have HR344_3:=Y0 hi344_3
          have HC344_3:=Y0 hl344_3
          clear hi344_3 hl344_3
          replace p344:=eq_true p344
          replace q344:=eq_true q344
          have ea_:=Option.some.inj (hx342_1.symm.trans hx344_1)
          injection ea_ with ea_ en_ ec_
          subst ea_
          subst ec_
          clear en_
          have ea_:=Option.some.inj (hx342_2.symm.trans hx344_2)
          injection ea_ with ea_ en_ ec_
          subst ea_
          subst ec_
          clear en_
          have ea_:=Option.some.inj (hx342_3.symm.trans hx344_3)
          injection ea_ with ea_ en_ ec_
          subst ea_
          subst ec_
          clear en_
          have p345:0≤(x8_3:Int):=of_decide_eq_true (by first|(with_reducible assumption)|assumption)
          have q345:x8_3 < (t332.length:Int):=of_decide_eq_true (by first|(with_reducible assumption)|assumption)
          obtain ⟨ad345,A345_1,c345_1,e345,hx345_0,hx345_1,hl345_1,hi345_1⟩:=at_T57 (Kd.R_reads' HO_341000.out).2.2 x8_3 p345 q345
          obtain rfl:ad343=ad345:=(by injection e345)
          obtain ⟨ce345,hce345,hMe345,hcc345⟩:=Kd.R_get HO_341000.out z57 x8_3 p345 (by first|exact q345|exact of_decide_eq_true (by first|(with_reducible assumption)|assumption)|(have e_:=(Kd.R_reads' HO_341000.out).1;omega))
          obtain ⟨ve345_1,rfl,ge345_1⟩:=k57_openM hMe345
          have hv345_1:=hcc345 1 _ rfl
          rw [add_field _ _ 1 (by omega)] at hv345_1
          replace hv345_1:=Option.some.inj (hv345_1.symm.trans hx345_1)
          rw [hv345_1] at ge345_1
          have HL345_1:=Y0 (show Kd.R k51 51 _ _ _ _ ((rd_T57 t332 x8_3).f1) from ge345_1)
          clear hv345_1 ge345_1
          clear hcc345 hce345
          have HR345_1:=Y0 hi345_1
          have HC345_1:=Y0 hl345_1
          clear hi345_1 hl345_1
          replace p345:=eq_true p345
          replace q345:=eq_true q345
          have ea_:=Option.some.inj (hx343_1.symm.trans hx345_1)
          injection ea_ with ea_ en_ ec_
          subst ea_
          subst ec_
          clear en_
          have p346:0≤(x8_3:Int):=of_decide_eq_true (by first|(with_reducible assumption)|assumption)
          have q346:x8_3 < (l0_0.length:Int):=of_decide_eq_true (by first|(with_reducible assumption)|assumption)
          obtain ⟨ad346,A346_1,c346_1,A346_2,c346_2,A346_3,c346_3,e346,hx346_0,hx346_1,hx346_2,hx346_3,hx346_4,hl346_1,hi346_1,hl346_2,hi346_2,hl346_3,hi346_3⟩:=at_T34 HR0_0.out x8_3 p346 q346
          obtain rfl:ad342=ad346:=(by injection e346)
          replace hx346_0:=(HB.out.cell (World.block_lt_of_cell? w _ hx346_0)).trans hx346_0
          replace hx346_1:=(HB.out.cell (World.block_lt_of_cell? w _ hx346_1)).trans hx346_1
          replace hx346_2:=(HB.out.cell (World.block_lt_of_cell? w _ hx346_2)).trans hx346_2
          replace hx346_3:=(HB.out.cell (World.block_lt_of_cell? w _ hx346_3)).trans hx346_3
          replace hx346_4:=(HB.out.cell (World.block_lt_of_cell? w _ hx346_4)).trans hx346_4
          have HR346_1:=Y0 hi346_1
          have HC346_1:=Y0 hl346_1
          clear hi346_1 hl346_1
          have HR346_2:=Y0 hi346_2
          have HC346_2:=Y0 hl346_2
          clear hi346_2 hl346_2
          have HR346_3:=Y0 hi346_3
          have HC346_3:=Y0 hl346_3
          clear hi346_3 hl346_3
          replace p346:=eq_true p346
          replace q346:=eq_true q346
          have ea_:=Option.some.inj (hx342_1.symm.trans hx346_1)
          injection ea_ with ea_ en_ ec_
          subst ea_
          subst ec_
          clear en_
          have ea_:=Option.some.inj (hx342_2.symm.trans hx346_2)
          injection ea_ with ea_ en_ ec_
          subst ea_
          subst ec_
          clear en_
          have ea_:=Option.some.inj (hx342_3.symm.trans hx346_3)
          injection ea_ with ea_ en_ ec_
          subst ea_
          subst ec_
          clear en_
          go_wp2
          repeat (go_quiet (fail);try go_wp2)
          go_roundg k4
          case measure=>have:=HJ3.out;have:=HJ12.out;have:=HK3.out;have:=HK4.out;omega
          case rel=>exact ⟨(wrap64 (x8_3 + 1)),(by first|rfl|(simp;done)|(simp [*];done)),H',⟨by have:=HJ3.out;have:=HJ12.out;have:=HK3.out;have:=HK4.out;omega⟩,⟨by (with_reducible repeat (first|apply Y5|apply Y6|apply Y7));exact HO_341000.out⟩,⟨by (with_reducible repeat (first|apply Y5|apply Y6|apply Y7));exact HO_341001.out⟩,⟨by (with_reducible repeat first|apply Y11|apply Y13|apply Y12);exact BK329.out⟩,⟨by (with_reducible repeat first|apply Y11|apply Y13|apply Y12);exact BK340.out⟩,⟨by repeat (with_reducible first|exact HB.out|apply Y3|apply Y1|apply Y2|refine Y4 ?_ GE329.out|refine Y4 ?_ GE340.out)⟩⟩
         rw [if_pos c47] at H
         have c47b0:decide (x9_4 < (((rd_T34 l0_0 x8_3).f1).length:Int))=true:=decide_eq_true c47
         clear c47
         by_cases c48:0≤x9_4
         rotate_left
         ·rw [if_neg c48] at H
          exact absurd H (by simp)
         rw [if_pos c48] at H
         have c48b0:decide (0≤x9_4)=true:=decide_eq_true c48
         clear c48
         replace H:=Y17.mp H
         obtain ⟨⟨t350,t351,t352,t353,t354,t355,t356,t357⟩,A490,H⟩:=H
         try dsimp only at H
         have A49:=Y0 A490
         clear A490
         replace H:=Y17.mp H
         obtain ⟨⟨t359,t360,t361,t362,t363,t364,t365,t366⟩,A500,H⟩:=H
         try dsimp only at H
         have A50:=Y0 A500
         clear A500
         by_cases c51:t357=true
         rotate_left
         ·replace c51:=Bool.eq_false_iff.mpr c51
          subst c51
          rw [if_neg (show ¬ (false=true) by decide)] at H
          exact absurd (Option.some.inj H) Bool.false_ne_true
         subst c51
         rw [if_pos rfl] at H
         by_cases c52:t366=true
         rotate_left
         ·replace c52:=Bool.eq_false_iff.mpr c52
          subst c52
          rw [if_neg (show ¬ (false=true) by decide)] at H
          exact absurd (Option.some.inj H) Bool.false_ne_true
         subst c52
         rw [if_pos rfl] at H
         by_cases c53:(!(t350 == t359) || (!(t351.toList == t360.toList) || (!(t352 == t361) || (!(t353 == t362) || (!(t354 == t363) || (!(t355 == t364) || (!(t356 == t365))))))))=true
         ·rw [if_pos c53] at H
          have c53b0:(!(t350 == t359) || (!(t351.toList == t360.toList) || (!(t352 == t361) || (!(t353 == t362) || (!(t354 == t363) || (!(t355 == t364) || (!(t356 == t365))))))))=true:=c53
          clear c53
          exact absurd (Option.some.inj H) Bool.false_ne_true
         rw [if_neg c53] at H
         have c53b0:(!(t350 == t359) || (!(t351.toList == t360.toList) || (!(t352 == t361) || (!(t353 == t362) || (!(t354 == t363) || (!(t355 == t364) || (!(t356 == t365))))))))=false:=by simpa using c53
         clear c53
         by_cases c54:t350=((rd_T36 ((rd_T34 l0_0 x8_3).f1) x9_4).f5)
         rotate_left
         ·rw [if_neg c54] at H
          have c54b0:(t350 == ((rd_T36 ((rd_T34 l0_0 x8_3).f1) x9_4).f5))=false:=beq_eq_false_iff_ne.mpr c54
          have c54b1:(t350 != ((rd_T36 ((rd_T34 l0_0 x8_3).f1) x9_4).f5))=true:=bne_iff_ne.mpr c54
          exact absurd (Option.some.inj H) Bool.false_ne_true
         rw [if_pos c54] at H
         have c54b0:(t350 == ((rd_T36 ((rd_T34 l0_0 x8_3).f1) x9_4).f5))=true:=beq_iff_eq.mpr c54
         have c54b1:(t350 != ((rd_T36 ((rd_T34 l0_0 x8_3).f1) x9_4).f5))=false:=bne_eq_false_iff_eq.mpr c54
         clear c54
         by_cases c55:(t354 != ((rd_T36 ((rd_T34 l0_0 x8_3).f1) x9_4).f2))=true
         ·rw [if_pos c55] at H
          have c55b0:(t354 != ((rd_T36 ((rd_T34 l0_0 x8_3).f1) x9_4).f2))=true:=c55
          (try (have c55b1:decide (t354=((rd_T36 ((rd_T34 l0_0 x8_3).f1) x9_4).f2))=false:=by simpa using c55))
          (try (have c55b2:(t354 == ((rd_T36 ((rd_T34 l0_0 x8_3).f1) x9_4).f2))=false:=by simpa using c55))
          (try (have c55b3:¬ (t354=((rd_T36 ((rd_T34 l0_0 x8_3).f1) x9_4).f2)):=by simpa using c55))
          clear c55
          exact absurd (Option.some.inj H) Bool.false_ne_true
         rw [if_neg c55] at H
         have c55b0:(t354 != ((rd_T36 ((rd_T34 l0_0 x8_3).f1) x9_4).f2))=false:=by simpa using c55
         (try (have c55b1:decide (t354=((rd_T36 ((rd_T34 l0_0 x8_3).f1) x9_4).f2))=true:=by simpa using c55))
         (try (have c55b2:(t354 == ((rd_T36 ((rd_T34 l0_0 x8_3).f1) x9_4).f2))=true:=by simpa using c55))
         clear c55
         by_cases c56:t356=((rd_T36 ((rd_T34 l0_0 x8_3).f1) x9_4).f3)
         rotate_left
         ·rw [if_neg c56] at H
          have c56b0:(t356 == ((rd_T36 ((rd_T34 l0_0 x8_3).f1) x9_4).f3))=false:=beq_eq_false_iff_ne.mpr c56
          have c56b1:(t356 != ((rd_T36 ((rd_T34 l0_0 x8_3).f1) x9_4).f3))=true:=bne_iff_ne.mpr c56
          exact absurd (Option.some.inj H) Bool.false_ne_true
         rw [if_pos c56] at H
         have c56b0:(t356 == ((rd_T36 ((rd_T34 l0_0 x8_3).f1) x9_4).f3))=true:=beq_iff_eq.mpr c56
         have c56b1:(t356 != ((rd_T36 ((rd_T34 l0_0 x8_3).f1) x9_4).f3))=false:=bne_eq_false_iff_eq.mpr c56
         clear c56
         by_cases c57:((t355 == (-1)) != (((rd_T36 ((rd_T34 l0_0 x8_3).f1) x9_4).f1).toList == ([]:List UInt8)))=true
         ·rw [if_pos c57] at H
          have c57b0:((t355 == (-1)) != (((rd_T36 ((rd_T34 l0_0 x8_3).f1) x9_4).f1).toList == ([]:List UInt8)))=true:=c57
          (try (have c57b1:decide ((t355 == (-1))=(((rd_T36 ((rd_T34 l0_0 x8_3).f1) x9_4).f1).toList == ([]:List UInt8)))=false:=by simpa using c57))
          (try (have c57b2:((t355 == (-1)) == (((rd_T36 ((rd_T34 l0_0 x8_3).f1) x9_4).f1).toList == ([]:List UInt8)))=false:=by simpa using c57))
          (try (have c57b3:¬ ((t355 == (-1))=(((rd_T36 ((rd_T34 l0_0 x8_3).f1) x9_4).f1).toList == ([]:List UInt8))):=by simpa using c57))
          clear c57
          exact absurd (Option.some.inj H) Bool.false_ne_true
         rw [if_neg c57] at H
         have c57b0:((t355 == (-1)) != (((rd_T36 ((rd_T34 l0_0 x8_3).f1) x9_4).f1).toList == ([]:List UInt8)))=false:=by simpa using c57
         have c57e:(!((t355 == (-1)) == ((rd_T36 ((rd_T34 l0_0 x8_3).f1) x9_4).f1).toList.isEmpty))=false:=by
          have h_:(((rd_T36 ((rd_T34 l0_0 x8_3).f1) x9_4).f1).toList == ([]:List UInt8))=((rd_T36 ((rd_T34 l0_0 x8_3).f1) x9_4).f1).toList.isEmpty:=by cases ((rd_T36 ((rd_T34 l0_0 x8_3).f1) x9_4).f1).toList <;> rfl
          rw [← h_];exact c57b0
         (try (have c57b1:decide ((t355 == (-1))=(((rd_T36 ((rd_T34 l0_0 x8_3).f1) x9_4).f1).toList == ([]:List UInt8)))=true:=by simpa using c57))
         (try (have c57b2:((t355 == (-1)) == (((rd_T36 ((rd_T34 l0_0 x8_3).f1) x9_4).f1).toList == ([]:List UInt8)))=true:=by simpa using c57))
         clear c57
         have H':=Y0 H
         clear H
         have hnb58:=NB329_340.out
         have hnc58:=NB340_329.out
         have ⟨hcz59_0,hcz59_1,hfz59_0,hfz59_1⟩:=sq_box2 BK329.out
         have p342:0≤(x8_3:Int):=of_decide_eq_true (by first|(with_reducible assumption)|assumption)
         have q342:x8_3 < (l0_0.length:Int):=of_decide_eq_true (by first|(with_reducible assumption)|assumption)
         obtain ⟨ad342,A342_1,c342_1,A342_2,c342_2,A342_3,c342_3,e342,hx342_0,hx342_1,hx342_2,hx342_3,hx342_4,hl342_1,hi342_1,hl342_2,hi342_2,hl342_3,hi342_3⟩:=at_T34 HR0_0.out x8_3 p342 q342
         cases e342
         replace hx342_0:=(HB.out.cell (World.block_lt_of_cell? w _ hx342_0)).trans hx342_0
         replace hx342_1:=(HB.out.cell (World.block_lt_of_cell? w _ hx342_1)).trans hx342_1
         replace hx342_2:=(HB.out.cell (World.block_lt_of_cell? w _ hx342_2)).trans hx342_2
         replace hx342_3:=(HB.out.cell (World.block_lt_of_cell? w _ hx342_3)).trans hx342_3
         replace hx342_4:=(HB.out.cell (World.block_lt_of_cell? w _ hx342_4)).trans hx342_4
         have HR342_1:=Y0 hi342_1
         have HC342_1:=Y0 hl342_1
         clear hi342_1 hl342_1
         have HR342_2:=Y0 hi342_2
         have HC342_2:=Y0 hl342_2
         clear hi342_2 hl342_2
         have HR342_3:=Y0 hi342_3
         have HC342_3:=Y0 hl342_3
         clear hi342_3 hl342_3
         replace p342:=eq_true p342
         replace q342:=eq_true q342
         have p347:0≤(x8_3:Int):=of_decide_eq_true (by first|(with_reducible assumption)|assumption)
         have q347:x8_3 < (l0_0.length:Int):=of_decide_eq_true (by first|(with_reducible assumption)|assumption)
         obtain ⟨ad347,A347_1,c347_1,A347_2,c347_2,A347_3,c347_3,e347,hx347_0,hx347_1,hx347_2,hx347_3,hx347_4,hl347_1,hi347_1,hl347_2,hi347_2,hl347_3,hi347_3⟩:=at_T34 HR0_0.out x8_3 p347 q347
         obtain rfl:ad342=ad347:=(by injection e347)
         replace hx347_0:=(HB.out.cell (World.block_lt_of_cell? w _ hx347_0)).trans hx347_0
         replace hx347_1:=(HB.out.cell (World.block_lt_of_cell? w _ hx347_1)).trans hx347_1
         replace hx347_2:=(HB.out.cell (World.block_lt_of_cell? w _ hx347_2)).trans hx347_2
         replace hx347_3:=(HB.out.cell (World.block_lt_of_cell? w _ hx347_3)).trans hx347_3
         replace hx347_4:=(HB.out.cell (World.block_lt_of_cell? w _ hx347_4)).trans hx347_4
         have HR347_1:=Y0 hi347_1
         have HC347_1:=Y0 hl347_1
         clear hi347_1 hl347_1
         have HR347_2:=Y0 hi347_2
         have HC347_2:=Y0 hl347_2
         clear hi347_2 hl347_2
         have HR347_3:=Y0 hi347_3
         have HC347_3:=Y0 hl347_3
         clear hi347_3 hl347_3
         replace p347:=eq_true p347
         replace q347:=eq_true q347
         have ea_:=Option.some.inj (hx342_1.symm.trans hx347_1)
         injection ea_ with ea_ en_ ec_
         subst ea_
         subst ec_
         clear en_
         have ea_:=Option.some.inj (hx342_2.symm.trans hx347_2)
         injection ea_ with ea_ en_ ec_
         subst ea_
         subst ec_
         clear en_
         have ea_:=Option.some.inj (hx342_3.symm.trans hx347_3)
         injection ea_ with ea_ en_ ec_
         subst ea_
         subst ec_
         clear en_
         have p348:0≤(x9_4:Int):=of_decide_eq_true (by first|(with_reducible assumption)|assumption)
         have q348:x9_4 < (((rd_T34 l0_0 x8_3).f1).length:Int):=of_decide_eq_true (by first|(with_reducible assumption)|assumption)
         obtain ⟨ad348,e348,hx348_0,hx348_1,hx348_2,hx348_3,hx348_4,hx348_5,hx348_6⟩:=at_T36 HR347_1.out x9_4 p348 q348
         cases e348
         replace hx348_0:=(HB.out.cell (World.block_lt_of_cell? w _ hx348_0)).trans hx348_0
         replace hx348_1:=(HB.out.cell (World.block_lt_of_cell? w _ hx348_1)).trans hx348_1
         replace hx348_2:=(HB.out.cell (World.block_lt_of_cell? w _ hx348_2)).trans hx348_2
         replace hx348_3:=(HB.out.cell (World.block_lt_of_cell? w _ hx348_3)).trans hx348_3
         replace hx348_4:=(HB.out.cell (World.block_lt_of_cell? w _ hx348_4)).trans hx348_4
         replace hx348_5:=(HB.out.cell (World.block_lt_of_cell? w _ hx348_5)).trans hx348_5
         replace hx348_6:=(HB.out.cell (World.block_lt_of_cell? w _ hx348_6)).trans hx348_6
         replace p348:=eq_true p348
         replace q348:=eq_true q348
         go_wp2_with (first|((with_reducible refine gate_dst (N:=10) rfl ?_);(try (refine gate_guard (by rfl) ?_;dsimp only));refine box_event ?hg (N:=10) ?hd (cs:=#[.string (⟨#[]⟩:ByteArray),.string (⟨#[]⟩:ByteArray),.bool false,.int .i64 0,.string (⟨#[]⟩:ByteArray),.int .i64 0,.int .i64 0]) (t:=36) ?hr ?_;(case hd=>rfl);(case hg=>rfl);(case hr=>first|(go_simp;done)|(go_simp;rfl));intro gb349 hg w60 hbox hb;have n0_:=Y0 (Kd.R_below (by (with_reducible repeat (first|apply Y5|apply Y6|apply Y7));exact HO_341000.out) hb);have n1_:=Y0 (Kd.R_below (by (with_reducible repeat (first|apply Y5|apply Y6|apply Y7));exact HO_341001.out) hb);have n2_:=Y0 (blk_below (g:=gb329) (o:=.cells #[.slice (some ad342) l0_0.length c0_0,.slice A0_1 l0_1.length c0_1] 26 (0,0)) (by (with_reducible repeat first|apply Y11|apply Y13|apply Y12);exact BK329.out) hb);have n3_:=Y0 (blk_below (g:=gb340) (o:=.cells #[.slice Ao17 t332.length co17,.slice Ao20 t335.length co20] 46 (0,0)) (by (with_reducible repeat first|apply Y11|apply Y13|apply Y12);exact BK340.out) hb);have n4_:=Y0 (below_step (by repeat (with_reducible first|exact HB.out|apply Y3|apply Y1|apply Y2|refine Y4 ?_ GE329.out|refine Y4 ?_ GE340.out)) hb);have n5_:=Y0 (hbox);have n6_:=Y0 ((by rw [hg];exact (below_size (by repeat (with_reducible first|exact HB.out|apply Y3|apply Y1|apply Y2|refine Y4 ?_ GE329.out|refine Y4 ?_ GE340.out))):w.heap.size≤gb349));have n7_:=Y0 ((by rw [hg];exact (below_size (by repeat (with_reducible first|exact HB.out|apply Y3|apply Y1|apply Y2|refine Y4 ?_ GE329.out|refine Y4 ?_ GE340.out))):w.heap.size≤gb349));have n8_:=Y0 ((by rw [hg];exact Nat.ne_of_lt (blk_lt (g:=gb329) (o:=.cells #[.slice (some ad342) l0_0.length c0_0,.slice A0_1 l0_1.length c0_1] 26 (0,0)) (by (with_reducible repeat first|apply Y11|apply Y13|apply Y12);exact BK329.out)):gb329≠gb349));have n9_:=Y0 ((by rw [hg];exact Nat.ne_of_gt (blk_lt (g:=gb329) (o:=.cells #[.slice (some ad342) l0_0.length c0_0,.slice A0_1 l0_1.length c0_1] 26 (0,0)) (by (with_reducible repeat first|apply Y11|apply Y13|apply Y12);exact BK329.out)):gb349≠gb329));have n10_:=Y0 ((by rw [hg];exact Nat.ne_of_lt (blk_lt (g:=gb340) (o:=.cells #[.slice Ao17 t332.length co17,.slice Ao20 t335.length co20] 46 (0,0)) (by (with_reducible repeat first|apply Y11|apply Y13|apply Y12);exact BK340.out)):gb340≠gb349));have n11_:=Y0 ((by rw [hg];exact Nat.ne_of_gt (blk_lt (g:=gb340) (o:=.cells #[.slice Ao17 t332.length co17,.slice Ao20 t335.length co20] 46 (0,0)) (by (with_reducible repeat first|apply Y11|apply Y13|apply Y12);exact BK340.out)):gb349≠gb340));clear HO_341000;clear HO_341001;clear BK329;clear BK340;clear HB;have HO_341000:=n0_;have HO_341001:=n1_;have BK329:=n2_;have BK340:=n3_;have HB:=n4_;have BK349:=n5_;have GW349:=n6_;have GE349:=n7_;have NB329_349:=n8_;have NB349_329:=n9_;have NB340_349:=n10_;have NB349_340:=n11_;clear n0_ n1_ n2_ n3_ n4_ n5_ n6_ n7_ n8_ n9_ n10_ n11_;clear hb hbox hg;have hnb61:=NB349_329.out;have hnc61:=NB329_349.out;have hnb62:=NB349_340.out;have hnc62:=NB340_349.out;have ⟨hcz63_0,hcz63_1,hcz63_2,hcz63_3,hcz63_4,hcz63_5,hcz63_6,hfz63_0,hfz63_1,hfz63_2,hfz63_3,hfz63_4,hfz63_5,hfz63_6⟩:=sq_box7 BK349.out;have ⟨hcz64_0,hcz64_1,hfz64_0,hfz64_1⟩:=sq_box2 BK340.out)|(go_at_call 20;(with_reducible refine (table_Find.calls _ _ t332 _ _ t335 x8_3 ((rd_T36 ((rd_T34 l0_0 x8_3).f1) x9_4).f4) t350 t351 t352 t353 t354 t355 t356 true _ ?side1 ?side2 ?side3 ?side4 A49.out).mono ?_);(case side1=>refine (Kd.R_reads' (e:=57) (base:=w.heap.size) (ok:=fun k_=>True) (n:=t332.length) (c:=co17) ?_).2.2;exact (by (with_reducible repeat (first|apply Y5|apply Y6|apply Y7));exact (Kd.R_mono (Kd.R_far (p:=⟨gb349,6,none⟩) (Kd.R_far (p:=⟨gb349,5,none⟩) (Kd.R_far (p:=⟨gb349,4,none⟩) (Kd.R_far (p:=⟨gb349,3,none⟩) (Kd.R_far (p:=⟨gb349,2,none⟩) (Kd.R_far (p:=⟨gb349,1,none⟩) (Kd.R_far (p:=⟨gb349,0,none⟩) (Kd.R_types HO_341000.out BK349.out (by decide)) (fun _ hk=>hk.2) (.string ((rd_T36 ((rd_T34 l0_0 x8_3).f1) x9_4).f0))) (fun _ hk=>hk.2) (.string ((rd_T36 ((rd_T34 l0_0 x8_3).f1) x9_4).f1))) (fun _ hk=>hk.2) (.bool ((rd_T36 ((rd_T34 l0_0 x8_3).f1) x9_4).f2))) (fun _ hk=>hk.2) (.int .i64 ((rd_T36 ((rd_T34 l0_0 x8_3).f1) x9_4).f3))) (fun _ hk=>hk.2) (.string ((rd_T36 ((rd_T34 l0_0 x8_3).f1) x9_4).f4))) (fun _ hk=>hk.2) (.int .i64 ((rd_T36 ((rd_T34 l0_0 x8_3).f1) x9_4).f5))) (fun _ hk=>hk.2) (.int .i64 ((rd_T36 ((rd_T34 l0_0 x8_3).f1) x9_4).f6))) (fun _ h_=>h_.1))));(case side2=>exact (Kd.R_reads' HO_341000.out).2.1);(case side3=>refine (Kd.R_reads' (e:=119) (base:=w.heap.size) (ok:=fun k_=>True) (n:=t335.length) (c:=co20) ?_).2.2;exact (by (with_reducible repeat (first|apply Y5|apply Y6|apply Y7));exact (Kd.R_mono (Kd.R_far (p:=⟨gb349,6,none⟩) (Kd.R_far (p:=⟨gb349,5,none⟩) (Kd.R_far (p:=⟨gb349,4,none⟩) (Kd.R_far (p:=⟨gb349,3,none⟩) (Kd.R_far (p:=⟨gb349,2,none⟩) (Kd.R_far (p:=⟨gb349,1,none⟩) (Kd.R_far (p:=⟨gb349,0,none⟩) (Kd.R_types HO_341001.out BK349.out (by decide)) (fun _ hk=>hk.2) (.string ((rd_T36 ((rd_T34 l0_0 x8_3).f1) x9_4).f0))) (fun _ hk=>hk.2) (.string ((rd_T36 ((rd_T34 l0_0 x8_3).f1) x9_4).f1))) (fun _ hk=>hk.2) (.bool ((rd_T36 ((rd_T34 l0_0 x8_3).f1) x9_4).f2))) (fun _ hk=>hk.2) (.int .i64 ((rd_T36 ((rd_T34 l0_0 x8_3).f1) x9_4).f3))) (fun _ hk=>hk.2) (.string ((rd_T36 ((rd_T34 l0_0 x8_3).f1) x9_4).f4))) (fun _ hk=>hk.2) (.int .i64 ((rd_T36 ((rd_T34 l0_0 x8_3).f1) x9_4).f5))) (fun _ hk=>hk.2) (.int .i64 ((rd_T36 ((rd_T34 l0_0 x8_3).f1) x9_4).f6))) (fun _ h_=>h_.1))));(case side4=>exact (Kd.R_reads' HO_341001.out).2.1);rintro e w65 ⟨rfl,hb⟩;have n0_:=Y0 (Kd.R_below (by (with_reducible repeat (first|apply Y5|apply Y6|apply Y7));exact (Kd.R_mono (Kd.R_far (p:=⟨gb349,6,none⟩) (Kd.R_far (p:=⟨gb349,5,none⟩) (Kd.R_far (p:=⟨gb349,4,none⟩) (Kd.R_far (p:=⟨gb349,3,none⟩) (Kd.R_far (p:=⟨gb349,2,none⟩) (Kd.R_far (p:=⟨gb349,1,none⟩) (Kd.R_far (p:=⟨gb349,0,none⟩) (Kd.R_types HO_341000.out BK349.out (by decide)) (fun _ hk=>hk.2) (.string ((rd_T36 ((rd_T34 l0_0 x8_3).f1) x9_4).f0))) (fun _ hk=>hk.2) (.string ((rd_T36 ((rd_T34 l0_0 x8_3).f1) x9_4).f1))) (fun _ hk=>hk.2) (.bool ((rd_T36 ((rd_T34 l0_0 x8_3).f1) x9_4).f2))) (fun _ hk=>hk.2) (.int .i64 ((rd_T36 ((rd_T34 l0_0 x8_3).f1) x9_4).f3))) (fun _ hk=>hk.2) (.string ((rd_T36 ((rd_T34 l0_0 x8_3).f1) x9_4).f4))) (fun _ hk=>hk.2) (.int .i64 ((rd_T36 ((rd_T34 l0_0 x8_3).f1) x9_4).f5))) (fun _ hk=>hk.2) (.int .i64 ((rd_T36 ((rd_T34 l0_0 x8_3).f1) x9_4).f6))) (fun _ h_=>h_.1))) hb);have n1_:=Y0 (Kd.R_below (by (with_reducible repeat (first|apply Y5|apply Y6|apply Y7));exact (Kd.R_mono (Kd.R_far (p:=⟨gb349,6,none⟩) (Kd.R_far (p:=⟨gb349,5,none⟩) (Kd.R_far (p:=⟨gb349,4,none⟩) (Kd.R_far (p:=⟨gb349,3,none⟩) (Kd.R_far (p:=⟨gb349,2,none⟩) (Kd.R_far (p:=⟨gb349,1,none⟩) (Kd.R_far (p:=⟨gb349,0,none⟩) (Kd.R_types HO_341001.out BK349.out (by decide)) (fun _ hk=>hk.2) (.string ((rd_T36 ((rd_T34 l0_0 x8_3).f1) x9_4).f0))) (fun _ hk=>hk.2) (.string ((rd_T36 ((rd_T34 l0_0 x8_3).f1) x9_4).f1))) (fun _ hk=>hk.2) (.bool ((rd_T36 ((rd_T34 l0_0 x8_3).f1) x9_4).f2))) (fun _ hk=>hk.2) (.int .i64 ((rd_T36 ((rd_T34 l0_0 x8_3).f1) x9_4).f3))) (fun _ hk=>hk.2) (.string ((rd_T36 ((rd_T34 l0_0 x8_3).f1) x9_4).f4))) (fun _ hk=>hk.2) (.int .i64 ((rd_T36 ((rd_T34 l0_0 x8_3).f1) x9_4).f5))) (fun _ hk=>hk.2) (.int .i64 ((rd_T36 ((rd_T34 l0_0 x8_3).f1) x9_4).f6))) (fun _ h_=>h_.1))) hb);have n2_:=Y0 (blk_below (g:=gb329) (o:=.cells #[.slice (some ad342) l0_0.length c0_0,.slice A0_1 l0_1.length c0_1] 26 (0,0)) (by (with_reducible repeat first|apply Y11|apply Y13|apply Y12);refine blk_far ?_ NB329_349.out _;(with_reducible repeat first|apply Y11|apply Y13|apply Y12);refine blk_far ?_ NB329_349.out _;(with_reducible repeat first|apply Y11|apply Y13|apply Y12);refine blk_far ?_ NB329_349.out _;(with_reducible repeat first|apply Y11|apply Y13|apply Y12);refine blk_far ?_ NB329_349.out _;(with_reducible repeat first|apply Y11|apply Y13|apply Y12);refine blk_far ?_ NB329_349.out _;(with_reducible repeat first|apply Y11|apply Y13|apply Y12);refine blk_far ?_ NB329_349.out _;(with_reducible repeat first|apply Y11|apply Y13|apply Y12);refine blk_far ?_ NB329_349.out _;(with_reducible repeat first|apply Y11|apply Y13|apply Y12);exact BK329.out) hb);have n3_:=Y0 (blk_below (g:=gb340) (o:=.cells #[.slice Ao17 t332.length co17,.slice Ao20 t335.length co20] 46 (0,0)) (by (with_reducible repeat first|apply Y11|apply Y13|apply Y12);refine blk_far ?_ NB340_349.out _;(with_reducible repeat first|apply Y11|apply Y13|apply Y12);refine blk_far ?_ NB340_349.out _;(with_reducible repeat first|apply Y11|apply Y13|apply Y12);refine blk_far ?_ NB340_349.out _;(with_reducible repeat first|apply Y11|apply Y13|apply Y12);refine blk_far ?_ NB340_349.out _;(with_reducible repeat first|apply Y11|apply Y13|apply Y12);refine blk_far ?_ NB340_349.out _;(with_reducible repeat first|apply Y11|apply Y13|apply Y12);refine blk_far ?_ NB340_349.out _;(with_reducible repeat first|apply Y11|apply Y13|apply Y12);refine blk_far ?_ NB340_349.out _;(with_reducible repeat first|apply Y11|apply Y13|apply Y12);exact BK340.out) hb);have n4_:=Y0 (blk_below (g:=gb349) (o:=.cells #[.string ((rd_T36 ((rd_T34 l0_0 x8_3).f1) x9_4).f0),.string ((rd_T36 ((rd_T34 l0_0 x8_3).f1) x9_4).f1),.bool ((rd_T36 ((rd_T34 l0_0 x8_3).f1) x9_4).f2),.int .i64 ((rd_T36 ((rd_T34 l0_0 x8_3).f1) x9_4).f3),.string ((rd_T36 ((rd_T34 l0_0 x8_3).f1) x9_4).f4),.int .i64 ((rd_T36 ((rd_T34 l0_0 x8_3).f1) x9_4).f5),.int .i64 ((rd_T36 ((rd_T34 l0_0 x8_3).f1) x9_4).f6)] 36 (0,0)) (by (with_reducible repeat first|apply Y11|apply Y13|apply Y12);refine blk_put (cs:=#[.string ((rd_T36 ((rd_T34 l0_0 x8_3).f1) x9_4).f0),.string ((rd_T36 ((rd_T34 l0_0 x8_3).f1) x9_4).f1),.bool ((rd_T36 ((rd_T34 l0_0 x8_3).f1) x9_4).f2),.int .i64 ((rd_T36 ((rd_T34 l0_0 x8_3).f1) x9_4).f3),.string ((rd_T36 ((rd_T34 l0_0 x8_3).f1) x9_4).f4),.int .i64 ((rd_T36 ((rd_T34 l0_0 x8_3).f1) x9_4).f5),.int .i64 0]) ?_ 6 _ rfl;(with_reducible repeat first|apply Y11|apply Y13|apply Y12);refine blk_put (cs:=#[.string ((rd_T36 ((rd_T34 l0_0 x8_3).f1) x9_4).f0),.string ((rd_T36 ((rd_T34 l0_0 x8_3).f1) x9_4).f1),.bool ((rd_T36 ((rd_T34 l0_0 x8_3).f1) x9_4).f2),.int .i64 ((rd_T36 ((rd_T34 l0_0 x8_3).f1) x9_4).f3),.string ((rd_T36 ((rd_T34 l0_0 x8_3).f1) x9_4).f4),.int .i64 0,.int .i64 0]) ?_ 5 _ rfl;(with_reducible repeat first|apply Y11|apply Y13|apply Y12);refine blk_put (cs:=#[.string ((rd_T36 ((rd_T34 l0_0 x8_3).f1) x9_4).f0),.string ((rd_T36 ((rd_T34 l0_0 x8_3).f1) x9_4).f1),.bool ((rd_T36 ((rd_T34 l0_0 x8_3).f1) x9_4).f2),.int .i64 ((rd_T36 ((rd_T34 l0_0 x8_3).f1) x9_4).f3),.string (⟨#[]⟩:ByteArray),.int .i64 0,.int .i64 0]) ?_ 4 _ rfl;(with_reducible repeat first|apply Y11|apply Y13|apply Y12);refine blk_put (cs:=#[.string ((rd_T36 ((rd_T34 l0_0 x8_3).f1) x9_4).f0),.string ((rd_T36 ((rd_T34 l0_0 x8_3).f1) x9_4).f1),.bool ((rd_T36 ((rd_T34 l0_0 x8_3).f1) x9_4).f2),.int .i64 0,.string (⟨#[]⟩:ByteArray),.int .i64 0,.int .i64 0]) ?_ 3 _ rfl;(with_reducible repeat first|apply Y11|apply Y13|apply Y12);refine blk_put (cs:=#[.string ((rd_T36 ((rd_T34 l0_0 x8_3).f1) x9_4).f0),.string ((rd_T36 ((rd_T34 l0_0 x8_3).f1) x9_4).f1),.bool false,.int .i64 0,.string (⟨#[]⟩:ByteArray),.int .i64 0,.int .i64 0]) ?_ 2 _ rfl;(with_reducible repeat first|apply Y11|apply Y13|apply Y12);refine blk_put (cs:=#[.string ((rd_T36 ((rd_T34 l0_0 x8_3).f1) x9_4).f0),.string (⟨#[]⟩:ByteArray),.bool false,.int .i64 0,.string (⟨#[]⟩:ByteArray),.int .i64 0,.int .i64 0]) ?_ 1 _ rfl;(with_reducible repeat first|apply Y11|apply Y13|apply Y12);refine blk_put (cs:=#[.string (⟨#[]⟩:ByteArray),.string (⟨#[]⟩:ByteArray),.bool false,.int .i64 0,.string (⟨#[]⟩:ByteArray),.int .i64 0,.int .i64 0]) ?_ 0 _ rfl;(with_reducible repeat first|apply Y11|apply Y13|apply Y12);exact BK349.out) hb);have n5_:=Y0 (below_step (by repeat (with_reducible first|exact HB.out|apply Y3|apply Y1|apply Y2|refine Y4 ?_ GE329.out|refine Y4 ?_ GE340.out|refine Y4 ?_ GE349.out)) hb);clear HO_341000;clear HO_341001;clear BK329;clear BK340;clear BK349;clear HB;have HO_341000:=n0_;have HO_341001:=n1_;have BK329:=n2_;have BK340:=n3_;have BK349:=n4_;have HB:=n5_;clear n0_ n1_ n2_ n3_ n4_ n5_;(try clear hb);(try clear hb2);(try clear hk);(try clear hi))|((with_reducible refine gate_dst (N:=11) rfl ?_);(try (refine gate_guard (by rfl) ?_;dsimp only));refine box_event ?hg (N:=11) ?hd (cs:=#[.int .i64 0,.string (⟨#[]⟩:ByteArray),.int .i64 0,.int .i64 0,.bool false,.int .i64 0,.int .i64 0]) (t:=51) ?hr ?_;(case hd=>rfl);(case hg=>rfl);(case hr=>first|(go_simp;done)|(go_simp;rfl));intro gb358 hg w66 hbox hb;have n0_:=Y0 (Kd.R_below (Kd.R_elderB (by (with_reducible repeat (first|apply Y5|apply Y6|apply Y7));exact HO_341000.out) gb358 (Nat.le_of_eq hg.symm)) hb);have n1_:=Y0 (Kd.R_below (by (with_reducible repeat (first|apply Y5|apply Y6|apply Y7));exact HO_341001.out) hb);have n2_:=Y0 (blk_below (g:=gb329) (o:=.cells #[.slice (some ad342) l0_0.length c0_0,.slice A0_1 l0_1.length c0_1] 26 (0,0)) (by (with_reducible repeat first|apply Y11|apply Y13|apply Y12);exact BK329.out) hb);have n3_:=Y0 (blk_below (g:=gb340) (o:=.cells #[.slice Ao17 t332.length co17,.slice Ao20 t335.length co20] 46 (0,0)) (by (with_reducible repeat first|apply Y11|apply Y13|apply Y12);exact BK340.out) hb);have n4_:=Y0 (blk_below (g:=gb349) (o:=.cells #[.string ((rd_T36 ((rd_T34 l0_0 x8_3).f1) x9_4).f0),.string ((rd_T36 ((rd_T34 l0_0 x8_3).f1) x9_4).f1),.bool ((rd_T36 ((rd_T34 l0_0 x8_3).f1) x9_4).f2),.int .i64 ((rd_T36 ((rd_T34 l0_0 x8_3).f1) x9_4).f3),.string ((rd_T36 ((rd_T34 l0_0 x8_3).f1) x9_4).f4),.int .i64 ((rd_T36 ((rd_T34 l0_0 x8_3).f1) x9_4).f5),.int .i64 ((rd_T36 ((rd_T34 l0_0 x8_3).f1) x9_4).f6)] 36 (0,0)) (by (with_reducible repeat first|apply Y11|apply Y13|apply Y12);exact BK349.out) hb);have n5_:=Y0 (below_step (by repeat (with_reducible first|exact HB.out|apply Y3|apply Y1|apply Y2|refine Y4 ?_ GE329.out|refine Y4 ?_ GE340.out|refine Y4 ?_ GE349.out)) hb);have n6_:=Y0 (hbox);have n7_:=Y0 ((by rw [hg];exact (below_size (by repeat (with_reducible first|exact HB.out|apply Y3|apply Y1|apply Y2|refine Y4 ?_ GE329.out|refine Y4 ?_ GE340.out|refine Y4 ?_ GE349.out))):w.heap.size≤gb358));have n8_:=Y0 ((by rw [hg];exact (below_size (by repeat (with_reducible first|exact HB.out|apply Y3|apply Y1|apply Y2|refine Y4 ?_ GE329.out|refine Y4 ?_ GE340.out|refine Y4 ?_ GE349.out))):w.heap.size≤gb358));have n9_:=Y0 ((by rw [hg];exact Nat.ne_of_lt (blk_lt (g:=gb329) (o:=.cells #[.slice (some ad342) l0_0.length c0_0,.slice A0_1 l0_1.length c0_1] 26 (0,0)) (by (with_reducible repeat first|apply Y11|apply Y13|apply Y12);exact BK329.out)):gb329≠gb358));have n10_:=Y0 ((by rw [hg];exact Nat.ne_of_gt (blk_lt (g:=gb329) (o:=.cells #[.slice (some ad342) l0_0.length c0_0,.slice A0_1 l0_1.length c0_1] 26 (0,0)) (by (with_reducible repeat first|apply Y11|apply Y13|apply Y12);exact BK329.out)):gb358≠gb329));have n11_:=Y0 ((by rw [hg];exact Nat.ne_of_lt (blk_lt (g:=gb340) (o:=.cells #[.slice Ao17 t332.length co17,.slice Ao20 t335.length co20] 46 (0,0)) (by (with_reducible repeat first|apply Y11|apply Y13|apply Y12);exact BK340.out)):gb340≠gb358));have n12_:=Y0 ((by rw [hg];exact Nat.ne_of_gt (blk_lt (g:=gb340) (o:=.cells #[.slice Ao17 t332.length co17,.slice Ao20 t335.length co20] 46 (0,0)) (by (with_reducible repeat first|apply Y11|apply Y13|apply Y12);exact BK340.out)):gb358≠gb340));have n13_:=Y0 ((by rw [hg];exact Nat.ne_of_lt (blk_lt (g:=gb349) (o:=.cells #[.string ((rd_T36 ((rd_T34 l0_0 x8_3).f1) x9_4).f0),.string ((rd_T36 ((rd_T34 l0_0 x8_3).f1) x9_4).f1),.bool ((rd_T36 ((rd_T34 l0_0 x8_3).f1) x9_4).f2),.int .i64 ((rd_T36 ((rd_T34 l0_0 x8_3).f1) x9_4).f3),.string ((rd_T36 ((rd_T34 l0_0 x8_3).f1) x9_4).f4),.int .i64 ((rd_T36 ((rd_T34 l0_0 x8_3).f1) x9_4).f5),.int .i64 ((rd_T36 ((rd_T34 l0_0 x8_3).f1) x9_4).f6)] 36 (0,0)) (by (with_reducible repeat first|apply Y11|apply Y13|apply Y12);exact BK349.out)):gb349≠gb358));have n14_:=Y0 ((by rw [hg];exact Nat.ne_of_gt (blk_lt (g:=gb349) (o:=.cells #[.string ((rd_T36 ((rd_T34 l0_0 x8_3).f1) x9_4).f0),.string ((rd_T36 ((rd_T34 l0_0 x8_3).f1) x9_4).f1),.bool ((rd_T36 ((rd_T34 l0_0 x8_3).f1) x9_4).f2),.int .i64 ((rd_T36 ((rd_T34 l0_0 x8_3).f1) x9_4).f3),.string ((rd_T36 ((rd_T34 l0_0 x8_3).f1) x9_4).f4),.int .i64 ((rd_T36 ((rd_T34 l0_0 x8_3).f1) x9_4).f5),.int .i64 ((rd_T36 ((rd_T34 l0_0 x8_3).f1) x9_4).f6)] 36 (0,0)) (by (with_reducible repeat first|apply Y11|apply Y13|apply Y12);exact BK349.out)):gb358≠gb349));clear HO_341000;clear HO_341001;clear BK329;clear BK340;clear BK349;clear HB;have HO_341000:=n0_;have HO_341001:=n1_;have BK329:=n2_;have BK340:=n3_;have BK349:=n4_;have HB:=n5_;have BK358:=n6_;have GW358:=n7_;have GE358:=n8_;have NB329_358:=n9_;have NB358_329:=n10_;have NB340_358:=n11_;have NB358_340:=n12_;have NB349_358:=n13_;have NB358_349:=n14_;clear n0_ n1_ n2_ n3_ n4_ n5_ n6_ n7_ n8_ n9_ n10_ n11_ n12_ n13_ n14_;clear hb hbox hg;have hnb67:=NB358_329.out;have hnc67:=NB329_358.out;have hnb68:=NB358_340.out;have hnc68:=NB340_358.out;have hnb69:=NB358_349.out;have hnc69:=NB349_358.out;have ⟨hcz70_0,hcz70_1,hcz70_2,hcz70_3,hcz70_4,hcz70_5,hcz70_6,hfz70_0,hfz70_1,hfz70_2,hfz70_3,hfz70_4,hfz70_5,hfz70_6⟩:=sq_box7 BK358.out;have ⟨hcz71_0,hcz71_1,hfz71_0,hfz71_1⟩:=sq_box2 BK340.out;have ⟨hcz72_0,hcz72_1,hcz72_2,hcz72_3,hcz72_4,hcz72_5,hcz72_6,hfz72_0,hfz72_1,hfz72_2,hfz72_3,hfz72_4,hfz72_5,hfz72_6⟩:=sq_box7 BK349.out)|(go_at_call 21;(with_reducible refine (table_By.calls _ _ t332 _ _ t335 x8_3 ((rd_T36 ((rd_T34 l0_0 x8_3).f1) x9_4).f5) t359 t360 t361 t362 t363 t364 t365 true _ ?side1 ?side2 ?side3 ?side4 A50.out).mono ?_);(case side1=>refine (Kd.R_reads' (e:=57) (base:=w.heap.size) (ok:=fun k_=>(True∧k_≠gb358)) (n:=t332.length) (c:=co17) ?_).2.2;exact (by (with_reducible repeat (first|apply Y5|apply Y6|apply Y7));exact (Kd.R_mono (Kd.R_far (p:=⟨gb358,6,none⟩) (Kd.R_far (p:=⟨gb358,5,none⟩) (Kd.R_far (p:=⟨gb358,4,none⟩) (Kd.R_far (p:=⟨gb358,3,none⟩) (Kd.R_far (p:=⟨gb358,2,none⟩) (Kd.R_far (p:=⟨gb358,1,none⟩) (Kd.R_far (p:=⟨gb358,0,none⟩) (Kd.R_mono HO_341000.out (fun k_ hk=>(⟨hk,hk.2⟩:_∧k_≠gb358))) (fun _ hk=>hk.2) (.int .i64 t350)) (fun _ hk=>hk.2) (.string t351)) (fun _ hk=>hk.2) (.int .i64 t352)) (fun _ hk=>hk.2) (.int .i64 t353)) (fun _ hk=>hk.2) (.bool t354)) (fun _ hk=>hk.2) (.int .i64 t355)) (fun _ hk=>hk.2) (.int .i64 t356)) (fun _ h_=>h_.1))));(case side2=>exact (Kd.R_reads' HO_341000.out).2.1);(case side3=>refine (Kd.R_reads' (e:=119) (base:=w.heap.size) (ok:=fun k_=>True) (n:=t335.length) (c:=co20) ?_).2.2;exact (by (with_reducible repeat (first|apply Y5|apply Y6|apply Y7));exact (Kd.R_mono (Kd.R_far (p:=⟨gb358,6,none⟩) (Kd.R_far (p:=⟨gb358,5,none⟩) (Kd.R_far (p:=⟨gb358,4,none⟩) (Kd.R_far (p:=⟨gb358,3,none⟩) (Kd.R_far (p:=⟨gb358,2,none⟩) (Kd.R_far (p:=⟨gb358,1,none⟩) (Kd.R_far (p:=⟨gb358,0,none⟩) (Kd.R_types HO_341001.out BK358.out (by decide)) (fun _ hk=>hk.2) (.int .i64 t350)) (fun _ hk=>hk.2) (.string t351)) (fun _ hk=>hk.2) (.int .i64 t352)) (fun _ hk=>hk.2) (.int .i64 t353)) (fun _ hk=>hk.2) (.bool t354)) (fun _ hk=>hk.2) (.int .i64 t355)) (fun _ hk=>hk.2) (.int .i64 t356)) (fun _ h_=>h_.1))));(case side4=>exact (Kd.R_reads' HO_341001.out).2.1);rintro e w73 ⟨rfl,hb⟩;have n0_:=Y0 (Kd.R_below (by (with_reducible repeat (first|apply Y5|apply Y6|apply Y7));exact (Kd.R_mono (Kd.R_far (p:=⟨gb358,6,none⟩) (Kd.R_far (p:=⟨gb358,5,none⟩) (Kd.R_far (p:=⟨gb358,4,none⟩) (Kd.R_far (p:=⟨gb358,3,none⟩) (Kd.R_far (p:=⟨gb358,2,none⟩) (Kd.R_far (p:=⟨gb358,1,none⟩) (Kd.R_far (p:=⟨gb358,0,none⟩) (Kd.R_mono HO_341000.out (fun k_ hk=>(⟨hk,hk.2⟩:_∧k_≠gb358))) (fun _ hk=>hk.2) (.int .i64 t350)) (fun _ hk=>hk.2) (.string t351)) (fun _ hk=>hk.2) (.int .i64 t352)) (fun _ hk=>hk.2) (.int .i64 t353)) (fun _ hk=>hk.2) (.bool t354)) (fun _ hk=>hk.2) (.int .i64 t355)) (fun _ hk=>hk.2) (.int .i64 t356)) (fun _ h_=>h_.1))) hb);have n1_:=Y0 (Kd.R_below (by (with_reducible repeat (first|apply Y5|apply Y6|apply Y7));exact (Kd.R_mono (Kd.R_far (p:=⟨gb358,6,none⟩) (Kd.R_far (p:=⟨gb358,5,none⟩) (Kd.R_far (p:=⟨gb358,4,none⟩) (Kd.R_far (p:=⟨gb358,3,none⟩) (Kd.R_far (p:=⟨gb358,2,none⟩) (Kd.R_far (p:=⟨gb358,1,none⟩) (Kd.R_far (p:=⟨gb358,0,none⟩) (Kd.R_types HO_341001.out BK358.out (by decide)) (fun _ hk=>hk.2) (.int .i64 t350)) (fun _ hk=>hk.2) (.string t351)) (fun _ hk=>hk.2) (.int .i64 t352)) (fun _ hk=>hk.2) (.int .i64 t353)) (fun _ hk=>hk.2) (.bool t354)) (fun _ hk=>hk.2) (.int .i64 t355)) (fun _ hk=>hk.2) (.int .i64 t356)) (fun _ h_=>h_.1))) hb);have n2_:=Y0 (blk_below (g:=gb329) (o:=.cells #[.slice (some ad342) l0_0.length c0_0,.slice A0_1 l0_1.length c0_1] 26 (0,0)) (by (with_reducible repeat first|apply Y11|apply Y13|apply Y12);refine blk_far ?_ NB329_358.out _;(with_reducible repeat first|apply Y11|apply Y13|apply Y12);refine blk_far ?_ NB329_358.out _;(with_reducible repeat first|apply Y11|apply Y13|apply Y12);refine blk_far ?_ NB329_358.out _;(with_reducible repeat first|apply Y11|apply Y13|apply Y12);refine blk_far ?_ NB329_358.out _;(with_reducible repeat first|apply Y11|apply Y13|apply Y12);refine blk_far ?_ NB329_358.out _;(with_reducible repeat first|apply Y11|apply Y13|apply Y12);refine blk_far ?_ NB329_358.out _;(with_reducible repeat first|apply Y11|apply Y13|apply Y12);refine blk_far ?_ NB329_358.out _;(with_reducible repeat first|apply Y11|apply Y13|apply Y12);exact BK329.out) hb);have n3_:=Y0 (blk_below (g:=gb340) (o:=.cells #[.slice Ao17 t332.length co17,.slice Ao20 t335.length co20] 46 (0,0)) (by (with_reducible repeat first|apply Y11|apply Y13|apply Y12);refine blk_far ?_ NB340_358.out _;(with_reducible repeat first|apply Y11|apply Y13|apply Y12);refine blk_far ?_ NB340_358.out _;(with_reducible repeat first|apply Y11|apply Y13|apply Y12);refine blk_far ?_ NB340_358.out _;(with_reducible repeat first|apply Y11|apply Y13|apply Y12);refine blk_far ?_ NB340_358.out _;(with_reducible repeat first|apply Y11|apply Y13|apply Y12);refine blk_far ?_ NB340_358.out _;(with_reducible repeat first|apply Y11|apply Y13|apply Y12);refine blk_far ?_ NB340_358.out _;(with_reducible repeat first|apply Y11|apply Y13|apply Y12);refine blk_far ?_ NB340_358.out _;(with_reducible repeat first|apply Y11|apply Y13|apply Y12);exact BK340.out) hb);have n4_:=Y0 (blk_below (g:=gb349) (o:=.cells #[.string ((rd_T36 ((rd_T34 l0_0 x8_3).f1) x9_4).f0),.string ((rd_T36 ((rd_T34 l0_0 x8_3).f1) x9_4).f1),.bool ((rd_T36 ((rd_T34 l0_0 x8_3).f1) x9_4).f2),.int .i64 ((rd_T36 ((rd_T34 l0_0 x8_3).f1) x9_4).f3),.string ((rd_T36 ((rd_T34 l0_0 x8_3).f1) x9_4).f4),.int .i64 ((rd_T36 ((rd_T34 l0_0 x8_3).f1) x9_4).f5),.int .i64 ((rd_T36 ((rd_T34 l0_0 x8_3).f1) x9_4).f6)] 36 (0,0)) (by (with_reducible repeat first|apply Y11|apply Y13|apply Y12);refine blk_far ?_ NB349_358.out _;(with_reducible repeat first|apply Y11|apply Y13|apply Y12);refine blk_far ?_ NB349_358.out _;(with_reducible repeat first|apply Y11|apply Y13|apply Y12);refine blk_far ?_ NB349_358.out _;(with_reducible repeat first|apply Y11|apply Y13|apply Y12);refine blk_far ?_ NB349_358.out _;(with_reducible repeat first|apply Y11|apply Y13|apply Y12);refine blk_far ?_ NB349_358.out _;(with_reducible repeat first|apply Y11|apply Y13|apply Y12);refine blk_far ?_ NB349_358.out _;(with_reducible repeat first|apply Y11|apply Y13|apply Y12);refine blk_far ?_ NB349_358.out _;(with_reducible repeat first|apply Y11|apply Y13|apply Y12);exact BK349.out) hb);have n5_:=Y0 (blk_below (g:=gb358) (o:=.cells #[.int .i64 t350,.string t351,.int .i64 t352,.int .i64 t353,.bool t354,.int .i64 t355,.int .i64 t356] 51 (0,0)) (by (with_reducible repeat first|apply Y11|apply Y13|apply Y12);refine blk_put (cs:=#[.int .i64 t350,.string t351,.int .i64 t352,.int .i64 t353,.bool t354,.int .i64 t355,.int .i64 0]) ?_ 6 _ rfl;(with_reducible repeat first|apply Y11|apply Y13|apply Y12);refine blk_put (cs:=#[.int .i64 t350,.string t351,.int .i64 t352,.int .i64 t353,.bool t354,.int .i64 0,.int .i64 0]) ?_ 5 _ rfl;(with_reducible repeat first|apply Y11|apply Y13|apply Y12);refine blk_put (cs:=#[.int .i64 t350,.string t351,.int .i64 t352,.int .i64 t353,.bool false,.int .i64 0,.int .i64 0]) ?_ 4 _ rfl;(with_reducible repeat first|apply Y11|apply Y13|apply Y12);refine blk_put (cs:=#[.int .i64 t350,.string t351,.int .i64 t352,.int .i64 0,.bool false,.int .i64 0,.int .i64 0]) ?_ 3 _ rfl;(with_reducible repeat first|apply Y11|apply Y13|apply Y12);refine blk_put (cs:=#[.int .i64 t350,.string t351,.int .i64 0,.int .i64 0,.bool false,.int .i64 0,.int .i64 0]) ?_ 2 _ rfl;(with_reducible repeat first|apply Y11|apply Y13|apply Y12);refine blk_put (cs:=#[.int .i64 t350,.string (⟨#[]⟩:ByteArray),.int .i64 0,.int .i64 0,.bool false,.int .i64 0,.int .i64 0]) ?_ 1 _ rfl;(with_reducible repeat first|apply Y11|apply Y13|apply Y12);refine blk_put (cs:=#[.int .i64 0,.string (⟨#[]⟩:ByteArray),.int .i64 0,.int .i64 0,.bool false,.int .i64 0,.int .i64 0]) ?_ 0 _ rfl;(with_reducible repeat first|apply Y11|apply Y13|apply Y12);exact BK358.out) hb);have n6_:=Y0 (below_step (by repeat (with_reducible first|exact HB.out|apply Y3|apply Y1|apply Y2|refine Y4 ?_ GE329.out|refine Y4 ?_ GE340.out|refine Y4 ?_ GE349.out|refine Y4 ?_ GE358.out)) hb);clear HO_341000;clear HO_341001;clear BK329;clear BK340;clear BK349;clear BK358;clear HB;have HO_341000:=n0_;have HO_341001:=n1_;have BK329:=n2_;have BK340:=n3_;have BK349:=n4_;have BK358:=n5_;have HB:=n6_;clear n0_ n1_ n2_ n3_ n4_ n5_ n6_;(try clear hb);(try clear hb2);(try clear hk);(try clear hi))|((with_reducible refine gate_dst (N:=13) rfl ?_);(try (refine gate_guard (by rfl) ?_;dsimp only));refine box_event ?hg (N:=13) ?hd (cs:=#[.int .i64 0,.string (⟨#[]⟩:ByteArray),.int .i64 0,.int .i64 0,.bool false,.int .i64 0,.int .i64 0]) (t:=51) ?hr ?_;(case hd=>rfl);(case hg=>rfl);(case hr=>first|(go_simp;done)|(go_simp;rfl));intro gb367 hg w74 hbox hb;have n0_:=Y0 (Kd.R_below (Kd.R_elderB (by (with_reducible repeat (first|apply Y5|apply Y6|apply Y7));exact HO_341000.out) gb367 (Nat.le_of_eq hg.symm)) hb);have n1_:=Y0 (Kd.R_below (by (with_reducible repeat (first|apply Y5|apply Y6|apply Y7));exact HO_341001.out) hb);have n2_:=Y0 (blk_below (g:=gb329) (o:=.cells #[.slice (some ad342) l0_0.length c0_0,.slice A0_1 l0_1.length c0_1] 26 (0,0)) (by (with_reducible repeat first|apply Y11|apply Y13|apply Y12);exact BK329.out) hb);have n3_:=Y0 (blk_below (g:=gb340) (o:=.cells #[.slice Ao17 t332.length co17,.slice Ao20 t335.length co20] 46 (0,0)) (by (with_reducible repeat first|apply Y11|apply Y13|apply Y12);exact BK340.out) hb);have n4_:=Y0 (blk_below (g:=gb349) (o:=.cells #[.string ((rd_T36 ((rd_T34 l0_0 x8_3).f1) x9_4).f0),.string ((rd_T36 ((rd_T34 l0_0 x8_3).f1) x9_4).f1),.bool ((rd_T36 ((rd_T34 l0_0 x8_3).f1) x9_4).f2),.int .i64 ((rd_T36 ((rd_T34 l0_0 x8_3).f1) x9_4).f3),.string ((rd_T36 ((rd_T34 l0_0 x8_3).f1) x9_4).f4),.int .i64 ((rd_T36 ((rd_T34 l0_0 x8_3).f1) x9_4).f5),.int .i64 ((rd_T36 ((rd_T34 l0_0 x8_3).f1) x9_4).f6)] 36 (0,0)) (by (with_reducible repeat first|apply Y11|apply Y13|apply Y12);exact BK349.out) hb);have n5_:=Y0 (blk_below (g:=gb358) (o:=.cells #[.int .i64 t350,.string t351,.int .i64 t352,.int .i64 t353,.bool t354,.int .i64 t355,.int .i64 t356] 51 (0,0)) (by (with_reducible repeat first|apply Y11|apply Y13|apply Y12);exact BK358.out) hb);have n6_:=Y0 (below_step (by repeat (with_reducible first|exact HB.out|apply Y3|apply Y1|apply Y2|refine Y4 ?_ GE329.out|refine Y4 ?_ GE340.out|refine Y4 ?_ GE349.out|refine Y4 ?_ GE358.out)) hb);have n7_:=Y0 (hbox);have n8_:=Y0 ((by rw [hg];exact (below_size (by repeat (with_reducible first|exact HB.out|apply Y3|apply Y1|apply Y2|refine Y4 ?_ GE329.out|refine Y4 ?_ GE340.out|refine Y4 ?_ GE349.out|refine Y4 ?_ GE358.out))):w.heap.size≤gb367));have n9_:=Y0 ((by rw [hg];exact (below_size (by repeat (with_reducible first|exact HB.out|apply Y3|apply Y1|apply Y2|refine Y4 ?_ GE329.out|refine Y4 ?_ GE340.out|refine Y4 ?_ GE349.out|refine Y4 ?_ GE358.out))):w.heap.size≤gb367));have n10_:=Y0 ((by rw [hg];exact Nat.ne_of_lt (blk_lt (g:=gb329) (o:=.cells #[.slice (some ad342) l0_0.length c0_0,.slice A0_1 l0_1.length c0_1] 26 (0,0)) (by (with_reducible repeat first|apply Y11|apply Y13|apply Y12);exact BK329.out)):gb329≠gb367));have n11_:=Y0 ((by rw [hg];exact Nat.ne_of_gt (blk_lt (g:=gb329) (o:=.cells #[.slice (some ad342) l0_0.length c0_0,.slice A0_1 l0_1.length c0_1] 26 (0,0)) (by (with_reducible repeat first|apply Y11|apply Y13|apply Y12);exact BK329.out)):gb367≠gb329));have n12_:=Y0 ((by rw [hg];exact Nat.ne_of_lt (blk_lt (g:=gb340) (o:=.cells #[.slice Ao17 t332.length co17,.slice Ao20 t335.length co20] 46 (0,0)) (by (with_reducible repeat first|apply Y11|apply Y13|apply Y12);exact BK340.out)):gb340≠gb367));have n13_:=Y0 ((by rw [hg];exact Nat.ne_of_gt (blk_lt (g:=gb340) (o:=.cells #[.slice Ao17 t332.length co17,.slice Ao20 t335.length co20] 46 (0,0)) (by (with_reducible repeat first|apply Y11|apply Y13|apply Y12);exact BK340.out)):gb367≠gb340));have n14_:=Y0 ((by rw [hg];exact Nat.ne_of_lt (blk_lt (g:=gb349) (o:=.cells #[.string ((rd_T36 ((rd_T34 l0_0 x8_3).f1) x9_4).f0),.string ((rd_T36 ((rd_T34 l0_0 x8_3).f1) x9_4).f1),.bool ((rd_T36 ((rd_T34 l0_0 x8_3).f1) x9_4).f2),.int .i64 ((rd_T36 ((rd_T34 l0_0 x8_3).f1) x9_4).f3),.string ((rd_T36 ((rd_T34 l0_0 x8_3).f1) x9_4).f4),.int .i64 ((rd_T36 ((rd_T34 l0_0 x8_3).f1) x9_4).f5),.int .i64 ((rd_T36 ((rd_T34 l0_0 x8_3).f1) x9_4).f6)] 36 (0,0)) (by (with_reducible repeat first|apply Y11|apply Y13|apply Y12);exact BK349.out)):gb349≠gb367));have n15_:=Y0 ((by rw [hg];exact Nat.ne_of_gt (blk_lt (g:=gb349) (o:=.cells #[.string ((rd_T36 ((rd_T34 l0_0 x8_3).f1) x9_4).f0),.string ((rd_T36 ((rd_T34 l0_0 x8_3).f1) x9_4).f1),.bool ((rd_T36 ((rd_T34 l0_0 x8_3).f1) x9_4).f2),.int .i64 ((rd_T36 ((rd_T34 l0_0 x8_3).f1) x9_4).f3),.string ((rd_T36 ((rd_T34 l0_0 x8_3).f1) x9_4).f4),.int .i64 ((rd_T36 ((rd_T34 l0_0 x8_3).f1) x9_4).f5),.int .i64 ((rd_T36 ((rd_T34 l0_0 x8_3).f1) x9_4).f6)] 36 (0,0)) (by (with_reducible repeat first|apply Y11|apply Y13|apply Y12);exact BK349.out)):gb367≠gb349));have n16_:=Y0 ((by rw [hg];exact Nat.ne_of_lt (blk_lt (g:=gb358) (o:=.cells #[.int .i64 t350,.string t351,.int .i64 t352,.int .i64 t353,.bool t354,.int .i64 t355,.int .i64 t356] 51 (0,0)) (by (with_reducible repeat first|apply Y11|apply Y13|apply Y12);exact BK358.out)):gb358≠gb367));have n17_:=Y0 ((by rw [hg];exact Nat.ne_of_gt (blk_lt (g:=gb358) (o:=.cells #[.int .i64 t350,.string t351,.int .i64 t352,.int .i64 t353,.bool t354,.int .i64 t355,.int .i64 t356] 51 (0,0)) (by (with_reducible repeat first|apply Y11|apply Y13|apply Y12);exact BK358.out)):gb367≠gb358));clear HO_341000;clear HO_341001;clear BK329;clear BK340;clear BK349;clear BK358;clear HB;have HO_341000:=n0_;have HO_341001:=n1_;have BK329:=n2_;have BK340:=n3_;have BK349:=n4_;have BK358:=n5_;have HB:=n6_;have BK367:=n7_;have GW367:=n8_;have GE367:=n9_;have NB329_367:=n10_;have NB367_329:=n11_;have NB340_367:=n12_;have NB367_340:=n13_;have NB349_367:=n14_;have NB367_349:=n15_;have NB358_367:=n16_;have NB367_358:=n17_;clear n0_ n1_ n2_ n3_ n4_ n5_ n6_ n7_ n8_ n9_ n10_ n11_ n12_ n13_ n14_ n15_ n16_ n17_;clear hb hbox hg;have hnb75:=NB367_329.out;have hnc75:=NB329_367.out;have hnb76:=NB367_340.out;have hnc76:=NB340_367.out;have hnb77:=NB367_349.out;have hnc77:=NB349_367.out;have hnb78:=NB367_358.out;have hnc78:=NB358_367.out;have ⟨hcz79_0,hcz79_1,hcz79_2,hcz79_3,hcz79_4,hcz79_5,hcz79_6,hfz79_0,hfz79_1,hfz79_2,hfz79_3,hfz79_4,hfz79_5,hfz79_6⟩:=sq_box7 BK367.out;have ⟨hcz80_0,hcz80_1,hcz80_2,hcz80_3,hcz80_4,hcz80_5,hcz80_6,hfz80_0,hfz80_1,hfz80_2,hfz80_3,hfz80_4,hfz80_5,hfz80_6⟩:=sq_box7 BK358.out;have ⟨hcz81_0,hcz81_1,hcz81_2,hcz81_3,hcz81_4,hcz81_5,hcz81_6,hfz81_0,hfz81_1,hfz81_2,hfz81_3,hfz81_4,hfz81_5,hfz81_6⟩:=sq_box7 BK349.out))
         repeat (go_quiet (fail);try go_wp2)
         go_roundg k4
         case measure=>have:=HJ3.out;have:=HJ12.out;have:=HK3.out;have:=HK4.out;omega
         case rel=>exact ⟨(wrap64 (x9_4 + 1)),(by first|rfl|(simp;done)|(simp [*];done)),H',⟨by have:=HJ3.out;have:=HJ12.out;have:=HK3.out;have:=HK4.out;omega⟩,⟨by (with_reducible repeat (first|apply Y5|apply Y6|apply Y7));exact Kd.R_mono (Kd.R_far (p:=⟨gb367,6,none⟩) (Kd.R_far (p:=⟨gb367,5,none⟩) (Kd.R_far (p:=⟨gb367,4,none⟩) (Kd.R_far (p:=⟨gb367,3,none⟩) (Kd.R_far (p:=⟨gb367,2,none⟩) (Kd.R_far (p:=⟨gb367,1,none⟩) (Kd.R_far (p:=⟨gb367,0,none⟩) (Kd.R_mono HO_341000.out (fun k_ hk=>(⟨hk,hk.2⟩:_∧k_≠gb367))) (fun _ hk=>hk.2) (.int .i64 t359)) (fun _ hk=>hk.2) (.string t360)) (fun _ hk=>hk.2) (.int .i64 t361)) (fun _ hk=>hk.2) (.int .i64 t362)) (fun _ hk=>hk.2) (.bool t363)) (fun _ hk=>hk.2) (.int .i64 t364)) (fun _ hk=>hk.2) (.int .i64 t365)) (fun _ hk=>trivial)⟩,⟨by (with_reducible repeat (first|apply Y5|apply Y6|apply Y7));exact Kd.R_mono (Kd.R_far (p:=⟨gb367,6,none⟩) (Kd.R_far (p:=⟨gb367,5,none⟩) (Kd.R_far (p:=⟨gb367,4,none⟩) (Kd.R_far (p:=⟨gb367,3,none⟩) (Kd.R_far (p:=⟨gb367,2,none⟩) (Kd.R_far (p:=⟨gb367,1,none⟩) (Kd.R_far (p:=⟨gb367,0,none⟩) (Kd.R_types HO_341001.out BK367.out (by decide)) (fun _ hk=>hk.2) (.int .i64 t359)) (fun _ hk=>hk.2) (.string t360)) (fun _ hk=>hk.2) (.int .i64 t361)) (fun _ hk=>hk.2) (.int .i64 t362)) (fun _ hk=>hk.2) (.bool t363)) (fun _ hk=>hk.2) (.int .i64 t364)) (fun _ hk=>hk.2) (.int .i64 t365)) (fun _ hk=>trivial)⟩,⟨by (with_reducible repeat first|apply Y11|apply Y13|apply Y12);refine blk_far ?_ NB329_367.out _;(with_reducible repeat first|apply Y11|apply Y13|apply Y12);refine blk_far ?_ NB329_367.out _;(with_reducible repeat first|apply Y11|apply Y13|apply Y12);refine blk_far ?_ NB329_367.out _;(with_reducible repeat first|apply Y11|apply Y13|apply Y12);refine blk_far ?_ NB329_367.out _;(with_reducible repeat first|apply Y11|apply Y13|apply Y12);refine blk_far ?_ NB329_367.out _;(with_reducible repeat first|apply Y11|apply Y13|apply Y12);refine blk_far ?_ NB329_367.out _;(with_reducible repeat first|apply Y11|apply Y13|apply Y12);refine blk_far ?_ NB329_367.out _;(with_reducible repeat first|apply Y11|apply Y13|apply Y12);exact BK329.out⟩,⟨by (with_reducible repeat first|apply Y11|apply Y13|apply Y12);refine blk_far ?_ NB340_367.out _;(with_reducible repeat first|apply Y11|apply Y13|apply Y12);refine blk_far ?_ NB340_367.out _;(with_reducible repeat first|apply Y11|apply Y13|apply Y12);refine blk_far ?_ NB340_367.out _;(with_reducible repeat first|apply Y11|apply Y13|apply Y12);refine blk_far ?_ NB340_367.out _;(with_reducible repeat first|apply Y11|apply Y13|apply Y12);refine blk_far ?_ NB340_367.out _;(with_reducible repeat first|apply Y11|apply Y13|apply Y12);refine blk_far ?_ NB340_367.out _;(with_reducible repeat first|apply Y11|apply Y13|apply Y12);refine blk_far ?_ NB340_367.out _;(with_reducible repeat first|apply Y11|apply Y13|apply Y12);exact BK340.out⟩,⟨by repeat (with_reducible first|exact HB.out|apply Y3|apply Y1|apply Y2|refine Y4 ?_ GE329.out|refine Y4 ?_ GE340.out|refine Y4 ?_ GE349.out|refine Y4 ?_ GE358.out|refine Y4 ?_ GE367.out)⟩⟩
end Go.Proofs.YtddpjjhekhompaaGreatDoor.P
